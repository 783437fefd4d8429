import Derived.Test.YtphgacledebolaaRows
import Derived.Test.YtphgacledebolaaMOp
import Derived.Test.YtphgacledebolaaSpans
/- The statement SurgeSpans: the spans of nodes and gaps are as specified, for every input. -/
namespace Go.Proofs.Ytphgacledebolaa
open Go.ChangeShapes Go.WideShapes Go.ChangeAt Go.RowKit
set_option linter.unusedVariables false

theorem spans_bd {z : Int} (h : (Lit.int .i64 z).wf = true) : -9223372036854775808 ≤ z ∧ z ≤ 9223372036854775807 := by
  have h1 : IntKind.i64.min = -9223372036854775808 := by kernel_rfl
  have h2 : IntKind.i64.max = 9223372036854775807 := by kernel_rfl
  have h3 : (decide (IntKind.i64.min ≤ z) && decide (z ≤ IntKind.i64.max)) = true := h
  rw [h1, h2, Bool.and_eq_true, decide_eq_true_eq, decide_eq_true_eq] at h3
  exact h3
theorem spans_walk (s e : List (Int × Int)) (node gap : Int) (a a1 : Option Addr) (n c n1 c1 : Nat) (g : Bool) (w : World) (hs : PairsR w a n s) (he : PairsR w a1 n1 e)
    (bN : -9223372036854775808 ≤ node ∧ node ≤ 9223372036854775807) (bG : -9223372036854775808 ≤ gap ∧ gap ≤ 9223372036854775807) :
    Calls Try.prog 3 #[.agg #[.slice a n c, .slice a1 n1 c1, .bool g], .int .i64 node, .int .i64 gap] w fun e' w' => e' = .returned (.bool true) ∧ Below w.heap.size w w' := by
  by_cases h : rngErr s e = 0
  · obtain ⟨hn0, h1, h6, _⟩ := rngErr_zero h
    have hsl := hs.len
    rw [hsl] at hn0 h6 h1
    rw [he.len] at h1
    obtain rfl : n = n1 := h1.symm
    obtain ⟨L, hL⟩ : ∃ L : Nat, lastOf n g = L := by
      unfold lastOf
      split
      · exact ⟨n - 1, by omega⟩
      · exact ⟨n, rfl⟩
    have HN : ∃ A0 A1 A2 A3 EA : Int, (∀ (v : World) a3 c3 a4 c4, PairsR v a3 n s → PairsR v a4 n e → Calls Try.prog 11 #[.agg #[.slice a3 n c3, .slice a4 n c4, .bool g], .int .i64 node] v fun e' w' => e' = .returned (.tuple #[.agg #[.int .i64 A0, .int .i64 A1, .int .i64 A2, .int .i64 A3], .int .i64 EA]) ∧ Below v.heap.size v w')
        ∧ (wi node 0 n = false → EA = 6 ∧ A0 = 0 ∧ A1 = 0 ∧ A2 = 0 ∧ A3 = 0)
        ∧ (wi node 0 n = true → ∃ v, SpOk A0 A1 A2 A3 EA v ∧ ∀ w1, Below w.heap.size w w1 → Calls Try.prog 17 #[.agg #[.slice a n c, .slice a1 n c1, .bool g], .int .i64 node] w1 fun e' w' => e' = .returned v ∧ Below w1.heap.size w1 w') := by
      cases hb : wi node 0 n
      · refine ⟨0, 0, 0, 0, 6, fun v a3 c3 a4 c4 p1 p2 => ?_, fun _ => ⟨rfl, rfl, rfl, rfl, rfl⟩, fun h => by cases h⟩
        exact nodeSpan_bad s e a3 a4 n c3 n c4 g node 6 v p1 p2 (by unfold nodeErr; rw [hsl, h, hb]; rfl) (by omega) bN.1 bN.2
      · have hb2 := wi_iff.1 hb
        obtain ⟨k, hk⟩ : ∃ k : Nat, node = (k : Int) := ⟨node.toNat, by omega⟩
        have hkn : k ≤ n := by omega
        obtain ⟨A0, A1, A2, A3, EA, hA, hS⟩ := node_sp h hsl hL k hkn
        refine ⟨A0, A1, A2, A3, EA, fun v a3 c3 a4 c4 p1 p2 => ?_, (fun h => by cases h), fun _ => ⟨_, hS, fun w1 hw1 => ?_⟩⟩
        · have := nodeSpan_ok s e a3 a4 n c3 n c4 L k g node hk v p1 p2 h hL hkn
          rw [hA] at this
          exact this
        · rw [hk]
          exact rnodeSpan_any s e a a1 n c c1 L k g w1 (hs.below hw1) (he.below hw1) h hL hkn
    have HG : ∃ A0 A1 A2 A3 EA : Int, (∀ (v : World) a3 c3 a4 c4, PairsR v a3 n s → PairsR v a4 n e → Calls Try.prog 13 #[.agg #[.slice a3 n c3, .slice a4 n c4, .bool g], .int .i64 gap] v fun e' w' => e' = .returned (.tuple #[.agg #[.int .i64 A0, .int .i64 A1, .int .i64 A2, .int .i64 A3], .int .i64 EA]) ∧ Below v.heap.size v w')
        ∧ (wi gap 0 ((n : Int) - 1) = false → EA = 6 ∧ A0 = 0 ∧ A1 = 0 ∧ A2 = 0 ∧ A3 = 0)
        ∧ (wi gap 0 ((n : Int) - 1) = true → ∃ v, SpOk A0 A1 A2 A3 EA v ∧ ∀ w1, Below w.heap.size w w1 → Calls Try.prog 19 #[.agg #[.slice a n c, .slice a1 n c1, .bool g], .int .i64 gap] w1 fun e' w' => e' = .returned v ∧ Below w1.heap.size w1 w') := by
      cases hb : wi gap 0 ((n : Int) - 1)
      · refine ⟨0, 0, 0, 0, 6, fun v a3 c3 a4 c4 p1 p2 => ?_, fun _ => ⟨rfl, rfl, rfl, rfl, rfl⟩, fun h => by cases h⟩
        exact gapSpan_bad s e a3 a4 n c3 n c4 g gap 6 v p1 p2 (by unfold gapErr; rw [hsl, h, hb]; rfl) (by omega) bG.1 bG.2
      · have hb2 := wi_iff.1 hb
        obtain ⟨k, hk⟩ : ∃ k : Nat, gap = (k : Int) := ⟨gap.toNat, by omega⟩
        have hkn : k < n := by omega
        obtain ⟨A0, A1, A2, A3, EA, hA, hS⟩ := gap_sp h hsl hL k hkn
        refine ⟨A0, A1, A2, A3, EA, fun v a3 c3 a4 c4 p1 p2 => ?_, (fun h => by cases h), fun _ => ⟨_, hS, fun w1 hw1 => ?_⟩⟩
        · have := gapSpan_ok s e a3 a4 n c3 n c4 L k g gap hk v p1 p2 h hL hkn
          rw [hA] at this
          exact this
        · rw [hk]
          exact rgapSpan_any s e a a1 n c c1 L k g w1 (hs.below hw1) (he.below hw1) h hL hkn
    obtain ⟨A0, A1, A2, A3, EA, hA1, hA2, hA3⟩ := HN
    obtain ⟨B0, B1, B2, B3, EB, hB1, hB2, hB3⟩ := HG
    exact spans_core s e node gap a a1 n c n c1 g w hs he h6 h6 hn0 A0 A1 A2 A3 EA B0 B1 B2 B3 EB _ _ h rfl rfl hA1 hB1 hA2 hB2 hA3 hB3
  · cases h0 : (decide ((n : Int) ≤ 8) && decide ((n1 : Int) ≤ 8))
    · exact spans_few s e node gap a a1 n c n1 c1 g w hs he h0
    · have f1 : ∀ x, firstErr [rngErr s e, x] = rngErr s e := fun x => by simp [firstErr, h]
      exact spans_badc s e node gap a a1 n c n1 c1 g w hs he h0 0 0 0 0 0 0 0 0 (rngErr s e) h rfl ⟨⟨rfl, rfl, rfl, rfl⟩, rfl, rfl, rfl, rfl⟩
        (fun v a3 c3 a4 c4 p1 p2 => nodeSpan_bad s e a3 a4 n c3 n1 c4 g node _ v p1 p2 (by unfold nodeErr; rw [f1]) h bN.1 bN.2)
        (fun v a3 c3 a4 c4 p1 p2 => gapSpan_bad s e a3 a4 n c3 n1 c4 g gap _ v p1 p2 (by unfold gapErr; rw [f1]) h bG.1 bG.2)
theorem own_spans : ownKnob Try.prog.godebug = none := by kernel_rfl
theorem laid_spans : laidOutB Try.prog = true := by kernel_rfl
set_option maxRecDepth 100000 in
theorem spans_lifted (os : Os) (started : os.Started) (H : Type) (enc : TypeId × Value → H) :
    ReturnsInHanded {} Try.checked os 3 .any (Rows.surgeSpansSpec.pre6 enc Try.prog Try.f3 Rows.surgeSpansRow.domain false) (Rows.surgeSpansSpec.post enc Try.prog Try.f3 false true false false) := by
  refine returnsInHanded_of_change (C := Try.checked) own_spans started (by kernel_rfl) Try.func3
    (ChangeSpec.witness6 (enc := enc) (C := Try.checked) false ⟨#[], #[.agg #[.slice none 0 0, .slice none 0 0, .bool false], .int .i64 0, .int .i64 0], []⟩ 8 (by kernel_rfl) (by kernel_rfl) (by kernel_rfl) (by kernel_rfl)) ?_
  intro W base args ds gs before hval0 hW hcnd _
  have hval : ∀ (j : Nat) t v, Try.f3.params[j]? = some t → args[j]? = some v → Value.okWide Try.prog W .any base t v := hval0
  have hW' := hW
  obtain ⟨p, q, hA0, hV, rfl, hfz, hnd⟩ := hW
  have hA : DataW.TrodAll enc Try.prog W 0 (fun _ => true) true Try.f3.params.toList args.toList ds p := hA0
  rw [Try.params3] at hA hval
  obtain ⟨v0, vs0, d0, ds0, p0, q0, hargs, rfl, rfl, h0, r0⟩ := trodAll_cons hA
  obtain ⟨v1, vs1, d1, ds1, p1, q1, rfl, rfl, rfl, h1, r1⟩ := trodAll_cons r0
  obtain ⟨v2, vs2, d2, ds2, p2, q2, rfl, rfl, rfl, h2, r2⟩ := trodAll_cons r1
  obtain ⟨rfl, rfl, rfl⟩ := trodAll_nil r2
  obtain rfl : args = #[v0, v1, v2] := by cases args; simp_all
  obtain ⟨rfl, rfl⟩ := trodVars_none hV
  have k0 := h0
  have lt0 : ∀ x ∈ p0, x.block < W.heap.size := by obtain ⟨m, hm⟩ := k0; exact DataW.trod_lt m _ _ _ hm
  obtain ⟨x0, x1, x2, y0, y1, y2, m0, hv0, _, _, t0, t1, t2⟩ := Go.Joins.open_agg3 Try.underlying24 (by kernel_rfl) (by kernel_rfl) (hval 0 24 v0 rfl rfl) h0
  obtain ⟨a, n, c, s, hx0, hs⟩ := opened_pairs Try.underlying22 Try.underlying46 (by kernel_rfl) rfl rfl rfl rfl t0
  obtain ⟨a1, n1, c1, e, hx1, he⟩ := opened_pairs Try.underlying22 Try.underlying46 (by kernel_rfl) rfl rfl rfl rfl t1
  obtain ⟨g, hx2, _⟩ := DataW.trod_bool Try.underlying4 t2
  simp only [List.cons.injEq, and_true] at hx0 hx1 hx2
  subst hx0 hx1 hx2 hv0
  obtain ⟨node, rfl, rfl, rfl, w1⟩ := open_int Try.underlying3 (hval 1 3 v1 rfl rfl) h1
  obtain ⟨gap, rfl, rfl, rfl, w2⟩ := open_int Try.underlying3 (hval 2 3 v2 rfl rfl) h2
  clear hA0 hval0
  refine (spans_walk s e node gap a a1 n c n1 c1 g W hs he (spans_bd w1) (spans_bd w2)).mono fun e W' ⟨he, bel⟩ => ?_
  subst he
  exact ⟨_, rfl, _, _, _, [], _, [], hW', trodAll_mk1 (shut_bool Try.underlying4 _), (trodAll_cons_mk (Below.trod laid_spans (by kernel_rfl) (of_decide_eq_true (by kernel_rfl)) k0 bel lt0) (trodAll_cons_mk (shut_int Try.underlying3 w1) (trodAll_cons_mk (shut_int Try.underlying3 w2) trodAll_mk0))), rfl, bel.frame _, fun h => by cases h⟩
theorem spans_holds : Rows.SurgeSpansSaid :=
  OpenClaim.holds_of_wide 3 Try.f3 rfl rfl rfl rfl rfl rfl rfl ⟨rfl, rfl, rfl, rfl, rfl⟩ rfl rfl rfl rfl rfl (by kernel_rfl) Try.func3 (by kernel_rfl)
    (of_decide_eq_true (by kernel_rfl)) (by unfold Func.isWrapper; first | (rw [if_pos (by decide +kernel)]; kernel_rfl) | (rw [if_neg (by decide +kernel)]; exact ⟨rfl, rfl⟩))
    (fun os started H enc _ => spans_lifted os started H enc)
#print axioms spans_holds
end Go.Proofs.Ytphgacledebolaa
