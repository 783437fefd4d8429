import Derived.Test.YtdklmcicogmeaaaGreatRows
import Derived.Test.YtdklmcicogmeaaaGreatLLoc
import Derived.Test.YtdklmcicogmeaaaGreatOpened9
/- The statement DischargeLocated: a source on a line through the sensors has a cell in the region. -/
namespace Go.Proofs.YtdklmcicogmeaaaGreat
open Go.ChangeShapes Go.WideShapes Go.ChangeAt Go.RowKit
set_option linter.unusedVariables false

section
variable {H : Type} {enc : TypeId × Value → H} {W : World} {base : Nat} {spare : Nat → Bool} {held : Bool}
set_option maxRecDepth 100000 in
theorem opened_sound {r : Reach} {b0 : Nat} {v : Value} {d : DataW H} {p : List MemPlace} (hv : Value.okWide Tryz.prog W r b0 26 v) (h : DataW.Trod enc Tryz.prog W base spare held 26 v d p) :
    ∃ (c : T3) (u ax s b wd : Int), v = .agg #[.int .i64 c.x, .int .i64 c.y, .int .i64 c.z, .int .i64 u, .int .i64 ax, .int .i64 s, .int .i64 b, .int .i64 wd] ∧ -9223372036854775808 ≤ u ∧ u ≤ 9223372036854775807 := by
  have hk : Tryz.prog.cellsOf 26 = 8 := by kernel_rfl
  have hc : Tryz.prog.cellsOf 3 = 1 := by kernel_rfl
  have h3 : Tryz.prog.cellsOf 22 = 3 := by kernel_rfl
  obtain ⟨cs, rfl, hsz⟩ := okWide_struct Tryz.underlying26 hv
  obtain ⟨a, b, c, d, e, f, g, i, rfl⟩ : ∃ a b c d e f g i, cs = #[a, b, c, d, e, f, g, i] := by
    have hs := hsz.trans hk
    obtain ⟨l⟩ := cs
    match l, hs with
    | [a, b, c, d, e, f, g, i], _ => exact ⟨a, b, c, d, e, f, g, i, rfl⟩
  obtain ⟨fuel, hf⟩ := h
  have hf := show DataW.trod enc Tryz.prog W base spare held fuel 26 [a, b, c, d, e, f, g, i] = _ from hf
  obtain ⟨m0, y0, h0⟩ := sub_field Tryz.underlying26 hf 0 _ rfl
  obtain ⟨m1, y1, h1⟩ := sub_field Tryz.underlying26 hf 1 _ rfl
  obtain ⟨m2, y2, h2⟩ := sub_field Tryz.underlying26 hf 2 _ rfl
  obtain ⟨m3, y3, h3'⟩ := sub_field Tryz.underlying26 hf 3 _ rfl
  obtain ⟨m4, y4, h4⟩ := sub_field Tryz.underlying26 hf 4 _ rfl
  obtain ⟨m5, y5, h5⟩ := sub_field Tryz.underlying26 hf 5 _ rfl
  have k0 : DataW.trod enc Tryz.prog W base spare held m0 22 (([a, b, c, d, e, f, g, i].drop 0).take (Tryz.prog.cellsOf 22)) = some y0 := h0
  have k1 : DataW.trod enc Tryz.prog W base spare held m1 3 (([a, b, c, d, e, f, g, i].drop 3).take (Tryz.prog.cellsOf 3)) = some y1 := h1
  have k2 : DataW.trod enc Tryz.prog W base spare held m2 3 (([a, b, c, d, e, f, g, i].drop 4).take (Tryz.prog.cellsOf 3)) = some y2 := h2
  have k3 : DataW.trod enc Tryz.prog W base spare held m3 3 (([a, b, c, d, e, f, g, i].drop 5).take (Tryz.prog.cellsOf 3)) = some y3 := h3'
  have k4 : DataW.trod enc Tryz.prog W base spare held m4 3 (([a, b, c, d, e, f, g, i].drop 6).take (Tryz.prog.cellsOf 3)) = some y4 := h4
  have k5 : DataW.trod enc Tryz.prog W base spare held m5 3 (([a, b, c, d, e, f, g, i].drop 7).take (Tryz.prog.cellsOf 3)) = some y5 := h5
  rw [h3] at k0
  rw [hc] at k1 k2 k3 k4 k5
  obtain ⟨p, rfl, rfl, rfl⟩ := leaf_arr3 (show DataW.trod enc Tryz.prog W base spare held m0 22 [a, b, c] = _ from k0)
  obtain ⟨u, rfl, hu0, hu1⟩ := leaf_intB (show DataW.trod enc Tryz.prog W base spare held m1 3 [d] = _ from k1)
  obtain ⟨ax, rfl⟩ := leaf_int (show DataW.trod enc Tryz.prog W base spare held m2 3 [e] = _ from k2)
  obtain ⟨sp, rfl⟩ := leaf_int (show DataW.trod enc Tryz.prog W base spare held m3 3 [f] = _ from k3)
  obtain ⟨bg, rfl⟩ := leaf_int (show DataW.trod enc Tryz.prog W base spare held m4 3 [g] = _ from k4)
  obtain ⟨wd, rfl⟩ := leaf_int (show DataW.trod enc Tryz.prog W base spare held m5 3 [i] = _ from k5)
  exact ⟨p, u, ax, sp, bg, wd, rfl, hu0, hu1⟩
end
theorem own_loc : ownKnob Tryz.prog.godebug = none := by kernel_rfl
theorem laid_loc : laidOutB Tryz.prog = true := by kernel_rfl
set_option maxRecDepth 100000 in
theorem loc_lifted (os : Os) (started : os.Started) (H : Type) (enc : TypeId × Value → H) :
    ReturnsInHanded {} Tryz.checked os 3 .any (Rows.dischargeLocatedSpec.pre6 enc Tryz.prog Tryz.f3 Rows.dischargeLocatedRow.domain false) (Rows.dischargeLocatedSpec.post enc Tryz.prog Tryz.f3 false true false false) := by
  refine returnsInHanded_of_change (C := Tryz.checked) own_loc started (by kernel_rfl) Tryz.func3
    (ChangeSpec.witness6 (enc := enc) (C := Tryz.checked) false ⟨#[], #[.agg #[.int .i64 0, .int .i64 0, .int .i64 0, .int .i64 0, .int .i64 0, .int .i64 0, .int .i64 0], .agg #[.int .i64 0, .int .i64 0, .int .i64 0, .int .i64 0, .int .i64 0, .int .i64 0, .int .i64 0, .int .i64 0], .slice none 0 0], []⟩ 8 (by kernel_rfl) (by kernel_rfl) (by kernel_rfl) (by kernel_rfl)) ?_
  intro W base args ds gs before hval0 hW hcnd _
  have hval : ∀ (j : Nat) t v, Tryz.f3.params[j]? = some t → args[j]? = some v → Value.okWide Tryz.prog W .any base t v := hval0
  have hW' := hW
  obtain ⟨p, q, hA0, hV, rfl, hfz, hnd⟩ := hW
  have hA : DataW.TrodAll enc Tryz.prog W 0 (fun _ => true) true Tryz.f3.params.toList args.toList ds p := hA0
  rw [Tryz.params3] at hA hval
  obtain ⟨v0, vs0, d0, ds0, p0, q0, hargs, rfl, rfl, h0, r0⟩ := trodAll_cons hA
  obtain ⟨v1, vs1, d1, ds1, p1, q1, rfl, rfl, rfl, h1, r1⟩ := trodAll_cons r0
  obtain ⟨v2, vs2, d2, ds2, p2, q2, rfl, rfl, rfl, h2, r2⟩ := trodAll_cons r1
  obtain ⟨rfl, rfl, rfl⟩ := trodAll_nil r2
  obtain rfl : args = #[v0, v1, v2] := by cases args; simp_all
  obtain ⟨rfl, rfl⟩ := trodVars_none hV
  have k0 := h0
  have lt0 : ∀ x ∈ p0, x.block < W.heap.size := by obtain ⟨m, hm⟩ := k0; exact DataW.trod_lt m _ _ _ hm
  have k1 := h1
  have lt1 : ∀ x ∈ p1, x.block < W.heap.size := by obtain ⟨m, hm⟩ := k1; exact DataW.trod_lt m _ _ _ hm
  have k2 := h2
  have lt2 : ∀ x ∈ p2, x.block < W.heap.size := by obtain ⟨m, hm⟩ := k2; exact DataW.trod_lt m _ _ _ hm
  obtain ⟨g, rfl⟩ := opened_grid (hval 0 24 v0 rfl rfl) h0
  obtain ⟨c1, uu1, ax1, vv1, bb1, wd1, rfl, hb1⟩ := opened_sound (hval 1 26 v1 rfl rfl) h1
  obtain ⟨l2, a2, n2, k2c, rfl, hl2⟩ := opened_list (hval 2 27 v2 rfl rfl) h2
  clear hA0 hval0
  refine (loc_any g c1 uu1 ax1 vv1 bb1 wd1 l2 a2 n2 k2c W hb1.1 hb1.2 hl2).mono fun e W' ⟨he, bel⟩ => ?_
  subst he
  exact ⟨_, rfl, _, _, _, [], _, [], hW', trodAll_mk1 (shut_bool Tryz.underlying4 _), (trodAll_cons_mk (Below.trod laid_loc (by kernel_rfl) (of_decide_eq_true (by kernel_rfl)) k0 bel lt0) (trodAll_cons_mk (Below.trod laid_loc (by kernel_rfl) (of_decide_eq_true (by kernel_rfl)) k1 bel lt1) (trodAll_cons_mk (Below.trod laid_loc (by kernel_rfl) (of_decide_eq_true (by kernel_rfl)) k2 bel lt2) trodAll_mk0))), rfl, bel.frame _, fun h => by cases h⟩
theorem loc_holds : Rows.DischargeLocatedSaid :=
  OpenClaim.holds_of_wide 3 Tryz.f3 rfl rfl rfl rfl rfl rfl rfl ⟨rfl, rfl, rfl, rfl, rfl⟩ rfl rfl rfl rfl rfl (by kernel_rfl) Tryz.func3 (by kernel_rfl)
    (of_decide_eq_true (by kernel_rfl)) (by unfold Func.isWrapper; first | (rw [if_pos (by decide +kernel)]; kernel_rfl) | (rw [if_neg (by decide +kernel)]; exact ⟨rfl, rfl⟩))
    (fun os started H enc _ => loc_lifted os started H enc)
#print axioms loc_holds
end Go.Proofs.YtdklmcicogmeaaaGreat
