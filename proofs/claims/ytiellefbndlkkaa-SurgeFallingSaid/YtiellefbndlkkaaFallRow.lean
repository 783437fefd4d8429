/- The statement SurgeFalling: initial voltages are from 0 to 1 and do not increase, they are accepted, and no longer with another number; for every input. -/
import Derived.Test.YtiellefbndlkkaaFall
import Derived.Test.YtiellefbndlkkaaOpened
import Derived.Test.YtiellefbndlkkaaRows
namespace Go.Proofs.Ytiellefbndlkkaa
open Go.ChangeShapes Go.WideShapes Go.ChangeAt Go.RowKit
set_option linter.unusedVariables false

theorem wf_bd {z : Int} (h : (Lit.int .i64 z).wf = true) : -9223372036854775808 ≤ z ∧ z ≤ 9223372036854775807 := by
  have h1 : IntKind.i64.min = -9223372036854775808 := by kernel_rfl
  have h2 : IntKind.i64.max = 9223372036854775807 := by kernel_rfl
  have h3 : (decide (IntKind.i64.min ≤ z) && decide (z ≤ IntKind.i64.max)) = true := h
  rw [h1, h2, Bool.and_eq_true, decide_eq_true_eq, decide_eq_true_eq] at h3
  exact h3
theorem fall_walk (s e t : List Int) (P Q at_ : Int) (a a1 a2 : Option Addr) (n c n1 c1 n2 c2 : Nat) (g : Bool) (w : World) (hs : IntsR w a n s) (he : IntsR w a1 n1 e) (ht : IntsR w a2 n2 t)
    (hP : -9223372036854775808 ≤ P ∧ P ≤ 9223372036854775807) (hQ : -9223372036854775808 ≤ Q ∧ Q ≤ 9223372036854775807) (hA : -9223372036854775808 ≤ at_ ∧ at_ ≤ 9223372036854775807) :
    Calls Try.prog 12 #[.agg #[.slice a n c, .slice a1 n1 c1, .slice a2 n2 c2, .bool g], .int .i64 at_, .agg #[.int .i64 P, .int .i64 Q]] w fun e' w' => e' = .returned (.bool true) ∧ Below w.heap.size w w' := by
  by_cases h : ladErr s e t = 0
  · obtain ⟨_, h1, h2, _⟩ := ladErr_zero h
    rw [hs.len, he.len] at h1
    rw [hs.len, ht.len] at h2
    obtain rfl : n = n1 := h1.symm
    obtain rfl : n = n2 := h2.symm
    exact fall_main s e t P Q at_ a a1 a2 n c c1 c2 g w hs he ht h hP.1 hP.2 hQ.2 hA.1 hA.2
  · exact fall_few s e t P Q at_ a a1 a2 n c n1 c1 n2 c2 g w hs he ht h
theorem own_fall : ownKnob Try.prog.godebug = none := by kernel_rfl
theorem laid_fall : laidOutB Try.prog = true := by kernel_rfl
set_option maxRecDepth 100000 in
theorem fall_lifted (os : Os) (started : os.Started) (H : Type) (enc : TypeId × Value → H) :
    ReturnsInHanded {} Try.checked os 12 .any (Rows.surgeFallingSpec.pre6 enc Try.prog Try.f12 Rows.surgeFallingRow.domain false) (Rows.surgeFallingSpec.post enc Try.prog Try.f12 false true false false) := by
  refine returnsInHanded_of_change (C := Try.checked) own_fall started (by kernel_rfl) Try.func12
    (ChangeSpec.witness6 (enc := enc) (C := Try.checked) false ⟨#[], #[.agg #[.slice none 0 0, .slice none 0 0, .slice none 0 0, .bool false], .int .i64 0, .agg #[.int .i64 0, .int .i64 0]], []⟩ 8 (by kernel_rfl) (by kernel_rfl) (by kernel_rfl) (by kernel_rfl)) ?_
  intro W base args ds gs before hval0 hW hcnd _
  have hval : ∀ (j : Nat) t v, Try.f12.params[j]? = some t → args[j]? = some v → Value.okWide Try.prog W .any base t v := hval0
  have hW' := hW
  obtain ⟨p, q, hA0, hV, rfl, hfz, hnd⟩ := hW
  have hA : DataW.TrodAll enc Try.prog W 0 (fun _ => true) true Try.f12.params.toList args.toList ds p := hA0
  rw [Try.params12] at hA hval
  obtain ⟨v0, vs0, d0, ds0, p0, q0, hargs, rfl, rfl, h0, r0⟩ := trodAll_cons hA
  obtain ⟨v1, vs1, d1, ds1, p1, q1, rfl, rfl, rfl, h1, r1⟩ := trodAll_cons r0
  obtain ⟨v2, vs2, d2, ds2, p2, q2, rfl, rfl, rfl, h2, r2⟩ := trodAll_cons r1
  obtain ⟨rfl, rfl, rfl⟩ := trodAll_nil r2
  obtain rfl : args = #[v0, v1, v2] := by cases args; simp_all
  obtain ⟨rfl, rfl⟩ := trodVars_none hV
  have k0 := h0
  have lt0 : ∀ x ∈ p0, x.block < W.heap.size := by obtain ⟨m, hm⟩ := k0; exact DataW.trod_lt m _ _ _ hm
  have k2 := h2
  have lt2 : ∀ x ∈ p2, x.block < W.heap.size := by obtain ⟨m, hm⟩ := k2; exact DataW.trod_lt m _ _ _ hm
  obtain ⟨x0, x1, x2, x3, y0, y1, y2, y3, m0, hv0, _, _, t0, t1, t2, t3⟩ := Go.Joins.open_agg4 Try.underlying58 (by kernel_rfl) (by kernel_rfl) (hval 0 58 v0 rfl rfl) h0
  obtain ⟨x4, x5, y4, y5, m1, hv2, _, _, t4, t5⟩ := Go.Joins.open_agg2 Try.underlying45 (by kernel_rfl) (by kernel_rfl) (hval 2 45 v2 rfl rfl) h2
  obtain ⟨a, n, c, s, hx0, hs⟩ := opened_ints t0
  obtain ⟨a1, n1, c1, e, hx1, he⟩ := opened_ints t1
  obtain ⟨a2, n2, c2, t, hx2, ht⟩ := opened_ints t2
  obtain ⟨g, hx3, _⟩ := DataW.trod_bool Try.underlying4 t3
  obtain ⟨P, hx4, _, hP⟩ := DataW.trod_int Try.underlying3 t4
  obtain ⟨Q, hx5, _, hQ⟩ := DataW.trod_int Try.underlying3 t5
  simp only [List.cons.injEq, and_true] at hx0 hx1 hx2 hx3 hx4 hx5
  subst hx0 hx1 hx2 hx3 hx4 hx5 hv0 hv2
  obtain ⟨at_, rfl, rfl, rfl, w2⟩ := open_int Try.underlying3 (hval 1 3 v1 rfl rfl) h1
  clear hA0 hval0
  refine (fall_walk s e t P Q at_ a a1 a2 n c n1 c1 n2 c2 g W hs he ht (wf_bd hP) (wf_bd hQ) (wf_bd w2)).mono fun e W' ⟨he, bel⟩ => ?_
  subst he
  exact ⟨_, rfl, _, _, _, [], _, [], hW', trodAll_mk1 (shut_bool Try.underlying4 _), (trodAll_cons_mk (Below.trod laid_fall (by kernel_rfl) (of_decide_eq_true (by kernel_rfl)) k0 bel lt0) (trodAll_cons_mk (shut_int Try.underlying3 w2) (trodAll_cons_mk (Below.trod laid_fall (by kernel_rfl) (of_decide_eq_true (by kernel_rfl)) k2 bel lt2) trodAll_mk0))), rfl, bel.frame _, fun h => by cases h⟩
theorem falling_holds : Rows.SurgeFallingSaid :=
  OpenClaim.holds_of_wide 12 Try.f12 rfl rfl rfl rfl rfl rfl rfl ⟨rfl, rfl, rfl, rfl, rfl⟩ rfl rfl rfl rfl rfl (by kernel_rfl) Try.func12 (by kernel_rfl)
    (of_decide_eq_true (by kernel_rfl)) (by unfold Func.isWrapper; first | (rw [if_pos (by decide +kernel)]; kernel_rfl) | (rw [if_neg (by decide +kernel)]; exact ⟨rfl, rfl⟩))
    (fun os started H enc _ => fall_lifted os started H enc)
#print axioms falling_holds
end Go.Proofs.Ytiellefbndlkkaa
