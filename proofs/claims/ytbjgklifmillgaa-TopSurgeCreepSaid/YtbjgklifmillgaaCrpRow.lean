import Derived.Test.YtbjgklifmillgaaRows
import Derived.Test.YtbjgklifmillgaaCrpMain
import Derived.Test.YtbjgklifmillgaaMCf
import Derived.Test.YtbjgklifmillgaaMOp
/- The statement TopSurgeCreep: no gap is stressed beyond its proof, for every input. -/
namespace Go.Proofs.Ytbjgklifmillgaa
open Go.ChangeShapes Go.WideShapes Go.ChangeAt Go.RowKit
set_option linter.unusedVariables false

theorem wf_bd {z : Int} (h : (Lit.int .i64 z).wf = true) : -9223372036854775808 ≤ z ∧ z ≤ 9223372036854775807 := by
  have h1 : IntKind.i64.min = -9223372036854775808 := by kernel_rfl
  have h2 : IntKind.i64.max = 9223372036854775807 := by kernel_rfl
  have h3 : (decide (IntKind.i64.min ≤ z) && decide (z ≤ IntKind.i64.max)) = true := h
  rw [h1, h2, Bool.and_eq_true, decide_eq_true_eq, decide_eq_true_eq] at h3
  exact h3
section
variable {H : Type} {enc : TypeId × Value → H} {W : World} {base : Nat} {spare : Nat → Bool} {held : Bool}
theorem opened_intsB {fuel : Nat} {cs : List Value} {x : DataW H × List MemPlace} (h : DataW.trod enc Try.prog W base spare held fuel 31 cs = some x) : ∃ a n c l, cs = [.slice a n c] ∧ IntsR W a n l ∧ ∀ k, -9223372036854775808 ≤ l.getD k 0 ∧ l.getD k 0 ≤ 9223372036854775807 := by
  rcases open_ints Try.underlying31 Try.underlying3 (by kernel_rfl) h with ⟨rfl, _⟩ | ⟨a, len, cap, zs, rfl, _, hl, hm, hz, _, hcell, hwz⟩
  · exact ⟨none, 0, 0, [], rfl, IntsR.nil _ _, fun k => by simp⟩
  · have hlz : len ≤ zs.length := by rw [hz]; split <;> omega
    have hbd : ∀ i, i < len → -9223372036854775808 ≤ zs.getD i 0 ∧ zs.getD i 0 ≤ 9223372036854775807 := fun i hi => wf_bd (hwz _ (getD_mem (by omega)))
    refine ⟨some a, len, cap, zs.take len, rfl, ⟨?_, by unfold maxLen at *; omega, fun hn => ?_⟩, fun k => ?_⟩
    · rw [icells_length, List.length_take]; omega
    · obtain ⟨b, off, spot⟩ := a
      have h0 := hcell 0 (by omega)
      have hs : spot = none := by simpa [Addr.add] using World.cell?_spot h0
      subst hs
      refine ⟨b, off, rfl, World.block_lt_of_cell? W _ h0, fun i u hu => ?_⟩
      have hi : i < (zs.take len).length := by
        rw [← icells_length]
        exact (List.getElem?_eq_some_iff.1 hu).1
      rw [icells_get hi] at hu
      have hi' : i < len := by rw [List.length_take] at hi; omega
      have := hcell i (by omega)
      rw [Addr.add_lit] at this
      rw [this, ← hu]
      congr 2
      simp [List.getD, hi']
    · by_cases hk : k < len
      · have : (zs.take len).getD k 0 = zs.getD k 0 := by simp [List.getD, hk]
        rw [this]; exact hbd k hk
      · have : (zs.take len).getD k 0 = 0 := by rw [List.getD_eq_getElem?_getD, List.getElem?_eq_none (by rw [List.length_take]; omega)]; rfl
        rw [this]; omega
end
theorem crp_walk (s e : List (Int × Int)) (X : List Int) (a a1 ax : Option Addr) (n c n1 c1 nx cx : Nat) (g : Bool) (v len : Int) (w : World) (hs : PairsR w a n s) (he : PairsR w a1 n1 e) (hx : IntsR w ax nx X) (bX : ∀ k, -9223372036854775808 ≤ X.getD k 0 ∧ X.getD k 0 ≤ 9223372036854775807) :
    Calls Try.prog 5 #[.agg #[.slice a n c, .slice a1 n1 c1, .bool g], .slice ax nx cx, .agg #[.int .i64 v, .int .i64 len]] w fun e' w' => e' = .returned (.bool true) ∧ Below w.heap.size w w' := by
  have hnx := hx.small
  by_cases h : rngErr s e = 0
  · by_cases h2 : 2 * n ≤ nx
    · by_cases h3 : nx ≤ 20
      · cases h4 : wi v 1 1000
        · exact crp_few s e a a1 ax n c n1 c1 nx cx g v len w hs he hnx (.inr (.inr (.inr (.inl h4))))
        · cases h5 : wi len 1 100
          · exact crp_few s e a a1 ax n c n1 c1 nx cx g v len w hs he hnx (.inr (.inr (.inr (.inr h5))))
          · obtain ⟨_, h1, _⟩ := rngErr_zero h
            rw [hs.len, he.len] at h1
            obtain rfl : n = n1 := h1.symm
            exact crp_main s e X a a1 ax n c c1 nx cx g v len w hs he hx h h2 h3 bX (wi_iff.1 h4) (wi_iff.1 h5)
      · exact crp_few s e a a1 ax n c n1 c1 nx cx g v len w hs he hnx (.inr (.inr (.inl (by omega))))
    · exact crp_few s e a a1 ax n c n1 c1 nx cx g v len w hs he hnx (.inr (.inl (by omega)))
  · exact crp_few s e a a1 ax n c n1 c1 nx cx g v len w hs he hnx (.inl h)
theorem own_crp : ownKnob Try.prog.godebug = none := by kernel_rfl
theorem laid_crp : laidOutB Try.prog = true := by kernel_rfl
set_option maxRecDepth 100000 in
theorem crp_lifted (os : Os) (started : os.Started) (H : Type) (enc : TypeId × Value → H) :
    ReturnsInHanded {} Try.checked os 5 .any (Rows.topSurgeCreepSpec.pre6 enc Try.prog Try.f5 Rows.topSurgeCreepRow.domain false) (Rows.topSurgeCreepSpec.post enc Try.prog Try.f5 false true false false) := by
  refine returnsInHanded_of_change (C := Try.checked) own_crp started (by kernel_rfl) Try.func5
    (ChangeSpec.witness6 (enc := enc) (C := Try.checked) false ⟨#[], #[.agg #[.slice none 0 0, .slice none 0 0, .bool false], .slice none 0 0, .agg #[.int .i64 0, .int .i64 0]], []⟩ 8 (by kernel_rfl) (by kernel_rfl) (by kernel_rfl) (by kernel_rfl)) ?_
  intro W base args ds gs before hval0 hW hcnd _
  have hval : ∀ (j : Nat) t v, Try.f5.params[j]? = some t → args[j]? = some v → Value.okWide Try.prog W .any base t v := hval0
  have hW' := hW
  obtain ⟨p, q, hA0, hV, rfl, hfz, hnd⟩ := hW
  have hA : DataW.TrodAll enc Try.prog W 0 (fun _ => true) true Try.f5.params.toList args.toList ds p := hA0
  rw [Try.params5] at hA hval
  obtain ⟨v0, vs0, d0, ds0, p0, q0, hargs, rfl, rfl, h0, r0⟩ := trodAll_cons hA
  obtain ⟨v1, vs1, d1, ds1, p1, q1, rfl, rfl, rfl, h1, r1⟩ := trodAll_cons r0
  obtain ⟨v2, vs2, d2, ds2, p2, q2, rfl, rfl, rfl, h2, r2⟩ := trodAll_cons r1
  obtain ⟨rfl, rfl, rfl⟩ := trodAll_nil r2
  obtain rfl : args = #[v0, v1, v2] := by cases args; simp_all
  obtain ⟨rfl, rfl⟩ := trodVars_none hV
  have k0 := h0
  have lt0 : ∀ x ∈ p0, x.block < W.heap.size := by obtain ⟨m, hm⟩ := k0; exact DataW.trod_lt m _ _ _ hm
  have k1 := h1
  have lt1 : ∀ x ∈ p1, x.block < W.heap.size := by obtain ⟨m, hm⟩ := k1; exact DataW.trod_lt m _ _ _ hm
  have k2 := h2
  have lt2 : ∀ x ∈ p2, x.block < W.heap.size := by obtain ⟨m, hm⟩ := k2; exact DataW.trod_lt m _ _ _ hm
  obtain ⟨x0, x1, x2, y0, y1, y2, m0, hv0, _, _, t0, t1, t2⟩ := Go.Joins.open_agg3 Try.underlying82 (by kernel_rfl) (by kernel_rfl) (hval 0 82 v0 rfl rfl) h0
  obtain ⟨a, n, c, s, hx0, hs⟩ := opened_pairs Try.underlying80 Try.underlying90 (by kernel_rfl) rfl rfl rfl rfl t0
  obtain ⟨a1, n1, c1, e, hx1, he⟩ := opened_pairs Try.underlying80 Try.underlying90 (by kernel_rfl) rfl rfl rfl rfl t1
  obtain ⟨g, hx2, _⟩ := DataW.trod_bool Try.underlying4 t2
  obtain ⟨ax, nx, cx, hv1⟩ := okWide_slice Try.underlying31 (hval 1 31 v1 rfl rfl)
  subst hv1
  obtain ⟨fuel1, hm⟩ := h1
  obtain ⟨ax', nx', cx', X, hx3, hX, bX⟩ := opened_intsB hm
  obtain ⟨rfl, rfl, rfl⟩ : ax = ax' ∧ nx = nx' ∧ cx = cx' := by simpa [Value.cells] using hx3
  simp only [List.cons.injEq, and_true] at hx0 hx1 hx2
  subst hx0 hx1 hx2 hv0
  obtain ⟨cs2, hv2, hs2, he2⟩ := opened_arr (ty := 83) Try.underlying83 (by kernel_rfl) (hval 2 83 v2 rfl rfl) h2
  obtain ⟨x, e2_0⟩ := he2 0 (by omega)
  obtain ⟨y, e2_1⟩ := he2 1 (by omega)
  obtain rfl : cs2 = #[.int .i64 x, .int .i64 y] := by
    obtain ⟨l2⟩ := cs2
    match l2, hs2 with
    | [c0, c1], _ => simp at e2_0 e2_1; subst e2_0 e2_1; rfl
  subst hv2
  clear hA0 hval0
  refine (crp_walk s e X a a1 ax n c n1 c1 nx cx g x y W hs he hX bX).mono fun e W' ⟨he, bel⟩ => ?_
  subst he
  exact ⟨_, rfl, _, _, _, [], _, [], hW', trodAll_mk1 (shut_bool Try.underlying4 _), (trodAll_cons_mk (Below.trod laid_crp (by kernel_rfl) (of_decide_eq_true (by kernel_rfl)) k0 bel lt0) (trodAll_cons_mk (Below.trod laid_crp (by kernel_rfl) (of_decide_eq_true (by kernel_rfl)) k1 bel lt1) (trodAll_cons_mk (Below.trod laid_crp (by kernel_rfl) (of_decide_eq_true (by kernel_rfl)) k2 bel lt2) trodAll_mk0))), rfl, bel.frame _, fun h => by cases h⟩
theorem creep_holds : Rows.TopSurgeCreepSaid :=
  OpenClaim.holds_of_wide 5 Try.f5 rfl rfl rfl rfl rfl rfl rfl ⟨rfl, rfl, rfl, rfl, rfl⟩ rfl rfl rfl rfl rfl (by kernel_rfl) Try.func5 (by kernel_rfl)
    (of_decide_eq_true (by kernel_rfl)) (by unfold Func.isWrapper; first | (rw [if_pos (by decide +kernel)]; kernel_rfl) | (rw [if_neg (by decide +kernel)]; exact ⟨rfl, rfl⟩))
    (fun os started H enc _ => crp_lifted os started H enc)
#print axioms creep_holds
end Go.Proofs.Ytbjgklifmillgaa
