/- The statement SurgePeaks: the maximum voltages of nodes and gaps are as specified, or the errors, for every input. -/
import Derived.Test.YtiellefbndlkkaaPeaksl
import Derived.Test.YtiellefbndlkkaaOpened
import Derived.Test.YtiellefbndlkkaaRows
namespace Go.Proofs.Ytiellefbndlkkaa
open Go.ChangeShapes Go.WideShapes Go.ChangeAt Go.RowKit
set_option linter.unusedVariables false

theorem own_peaks : ownKnob Try.prog.godebug = none := by kernel_rfl
theorem laid_peaks : laidOutB Try.prog = true := by kernel_rfl
set_option maxRecDepth 100000 in
theorem peaks_lifted (os : Os) (started : os.Started) (H : Type) (enc : TypeId × Value → H) :
    ReturnsInHanded {} Try.checked os 8 .any (Rows.surgePeaksSpec.pre6 enc Try.prog Try.f8 Rows.surgePeaksRow.domain false) (Rows.surgePeaksSpec.post enc Try.prog Try.f8 false true false false) := by
  refine returnsInHanded_of_change (C := Try.checked) own_peaks started (by kernel_rfl) Try.func8
    (ChangeSpec.witness6 (enc := enc) (C := Try.checked) false ⟨#[], #[.agg #[.slice none 0 0, .bool false], .slice none 0 0], []⟩ 8 (by kernel_rfl) (by kernel_rfl) (by kernel_rfl) (by kernel_rfl)) ?_
  intro W base args ds gs before hval0 hW hcnd _
  have hval : ∀ (j : Nat) t v, Try.f8.params[j]? = some t → args[j]? = some v → Value.okWide Try.prog W .any base t v := hval0
  have hW' := hW
  obtain ⟨p, q, hA0, hV, rfl, hfz, hnd⟩ := hW
  have hA : DataW.TrodAll enc Try.prog W 0 (fun _ => true) true Try.f8.params.toList args.toList ds p := hA0
  rw [Try.params8] at hA hval
  obtain ⟨v0, vs0, d0, ds0, p0, q0, hargs, rfl, rfl, h0, r0⟩ := trodAll_cons hA
  obtain ⟨v1, vs1, d1, ds1, p1, q1, rfl, rfl, rfl, h1, r1⟩ := trodAll_cons r0
  obtain ⟨rfl, rfl, rfl⟩ := trodAll_nil r1
  obtain rfl : args = #[v0, v1] := by cases args; simp_all
  obtain ⟨rfl, rfl⟩ := trodVars_none hV
  have k0 := h0
  have lt0 : ∀ x ∈ p0, x.block < W.heap.size := by obtain ⟨m, hm⟩ := k0; exact DataW.trod_lt m _ _ _ hm
  have k1 := h1
  have lt1 : ∀ x ∈ p1, x.block < W.heap.size := by obtain ⟨m, hm⟩ := k1; exact DataW.trod_lt m _ _ _ hm
  obtain ⟨x0, x1, y0, y1, m0, hv0, _, _, t0, t1⟩ := Go.Joins.open_agg2 Try.underlying24 (by kernel_rfl) (by kernel_rfl) (hval 0 24 v0 rfl rfl) h0
  obtain ⟨a, n, c, y, hx0, hy⟩ := opened_ints t0
  obtain ⟨e, hx1, _⟩ := DataW.trod_bool Try.underlying4 t1
  obtain ⟨a1, m, c1, hv1⟩ := okWide_slice Try.underlying22 (hval 1 22 v1 rfl rfl)
  subst hv1
  obtain ⟨fuel1, hm⟩ := h1
  obtain ⟨a1', m', c1', src, hx2, hs⟩ := opened_ints hm
  obtain ⟨rfl, rfl, rfl⟩ : a1 = a1' ∧ m = m' ∧ c1 = c1' := by simpa [Value.cells] using hx2
  simp only [List.cons.injEq, and_true] at hx0 hx1
  subst hx0 hx1 hv0
  clear hA0 hval0
  refine (peaksl_walk y src a a1 n c m c1 e W hy hs).mono fun e W' ⟨he, bel⟩ => ?_
  subst he
  exact ⟨_, rfl, _, _, _, [], _, [], hW', trodAll_mk1 (shut_bool Try.underlying4 _), (trodAll_cons_mk (Below.trod laid_peaks (by kernel_rfl) (of_decide_eq_true (by kernel_rfl)) k0 bel lt0) (trodAll_cons_mk (Below.trod laid_peaks (by kernel_rfl) (of_decide_eq_true (by kernel_rfl)) k1 bel lt1) trodAll_mk0)), rfl, bel.frame _, fun h => by cases h⟩
theorem peaks_holds : Rows.SurgePeaksSaid :=
  OpenClaim.holds_of_wide 8 Try.f8 rfl rfl rfl rfl rfl rfl rfl ⟨rfl, rfl, rfl, rfl, rfl⟩ rfl rfl rfl rfl rfl (by kernel_rfl) Try.func8 (by kernel_rfl)
    (of_decide_eq_true (by kernel_rfl)) (by unfold Func.isWrapper; first | (rw [if_pos (by decide +kernel)]; kernel_rfl) | (rw [if_neg (by decide +kernel)]; exact ⟨rfl, rfl⟩))
    (fun os started H enc _ => peaks_lifted os started H enc)
#print axioms peaks_holds
end Go.Proofs.Ytiellefbndlkkaa
