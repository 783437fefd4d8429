/- The statement SurgeChopped, for every input. -/
import Derived.Test.YtiellefbndlkkaaChopl
import Derived.Test.YtiellefbndlkkaaOpened2
import Derived.Test.YtiellefbndlkkaaRows
namespace Go.Proofs.Ytiellefbndlkkaa
open Go.ChangeShapes Go.WideShapes Go.ChangeAt Go.RowKit
set_option linter.unusedVariables false

set_option maxRecDepth 100000 in
theorem chopl_few (t f tm : Int) (a : Option Addr) (n c : Nat) (w : World) (hn : n ≤ 9223372036854775807) (h : ¬ (n ≤ 14)) :
    Calls Try.prog 10 #[.agg #[.slice a n c], .agg #[.int .i64 t, .int .i64 f], .int .i64 tm] w fun e' w' => e' = .returned (.bool true) ∧ Below w.heap.size w w' := by
  have HFS := Lib.hid (fun w' => fewPoints_any a n c w' hn)
  rw [show decide ((n : Int) ≤ 14) = false by simp; omega] at HFS
  clear h
  go_enter Try.func10, Try.ntmps10
  go_wp2_with fail
  refine (awake_any _).mono ?_
  rintro e5 w5 ⟨rfl, hb5⟩
  have hz5 := hb5.size
  simp only [World.size_alloc] at hz5
  have q0 : w5.cell? ⟨w.heap.size, 0, none⟩ = some (.slice a n c) := by { rw [cellB hb5 _ _ (by first | (simp; done) | (simp; omega) | omega)]; all_goals (first | assumption | go_simp) }; have l0 : w.heap.size < w5.heap.size := by { omega }
  have HB5 := Lib.hid (show Below w.heap.size w w5 by (repeat' (first | (with_reducible exact Below.refl _ _) | (with_reducible assumption) | (with_reducible refine Below.drewN ?_ _) | (with_reducible refine Below.alloc ?_ ?_ _) | (with_reducible refine Below.drew ?_) | (with_reducible refine Below.setCell ?_ ?_ _) | (with_reducible refine Below.step (by assumption) ?_ ?_) | (with_reducible exact And.left (by assumption)) | go_size)))
  clear hb5
  go_wp2_with fail
  refine (HFS.out _).mono ?_
  rintro e6 w6 ⟨rfl, hb6⟩
  have HB6 := Lib.hid (HB5.out.trans (hb6.mono HB5.out.size))
  clear hb6 HB5
  go_wp2
  go_ret
  exact ⟨rfl, HB6.out⟩
set_option maxRecDepth 100000 in
theorem chopl_bad (l : List (Int × Int)) (t f tm : Int) (a : Option Addr) (n c : Nat) (w : World) (hl : PairsR w a n l) (h14 : n ≤ 14) (h0 : ¬ (impErr l).2 = 0) :
    Calls Try.prog 10 #[.agg #[.slice a n c], .agg #[.int .i64 t, .int .i64 f], .int .i64 tm] w fun e' w' => e' = .returned (.bool true) ∧ Below w.heap.size w w' := by
  have i1 : (n : Int) ≤ 14 := by omega
  have HFS := Lib.hid (fun w' => fewPoints_any a n c w' (by omega))
  rw [show decide ((n : Int) ≤ 14) = true by simpa using i1] at HFS
  have HIE := Lib.hid (fun (v : World) (hv : Below w.heap.size w v) => impulseErr_any l a n c v (hl.below hv))
  obtain ⟨E, hE⟩ : ∃ E, E = (impErr l).2 := ⟨_, rfl⟩
  rw [← hE] at HIE h0
  have hE1 : (E != 0) = true := by simpa using h0
  have hE2 : (E == 0) = false := by simpa using h0
  clear hE hl
  go_enter Try.func10, Try.ntmps10
  go_wp2_with fail
  refine (awake_any _).mono ?_
  rintro e5 w5 ⟨rfl, hb5⟩
  have hz5 := hb5.size
  simp only [World.size_alloc] at hz5
  have q0 : w5.cell? ⟨w.heap.size, 0, none⟩ = some (.slice a n c) := by { rw [cellB hb5 _ _ (by first | (simp; done) | (simp; omega) | omega)]; all_goals (first | assumption | go_simp) }; have l0 : w.heap.size < w5.heap.size := by { omega }
  have HB5 := Lib.hid (show Below w.heap.size w w5 by (repeat' (first | (with_reducible exact Below.refl _ _) | (with_reducible assumption) | (with_reducible refine Below.drewN ?_ _) | (with_reducible refine Below.alloc ?_ ?_ _) | (with_reducible refine Below.drew ?_) | (with_reducible refine Below.setCell ?_ ?_ _) | (with_reducible refine Below.step (by assumption) ?_ ?_) | (with_reducible exact And.left (by assumption)) | go_size)))
  clear hb5
  go_wp2_with fail
  refine (HFS.out _).mono ?_
  rintro e6 w6 ⟨rfl, hb6⟩
  have hz6 := hb6.size
  have q0c : w6.cell? ⟨w.heap.size, 0, none⟩ = some (.slice a n c) := by { rw [cellB hb6 _ _ (by first | (simp; done) | (simp; omega) | omega)]; all_goals (first | assumption | go_simp) }; have l0c : w.heap.size < w6.heap.size := by { omega }
  have HB6 := Lib.hid (HB5.out.trans (hb6.mono HB5.out.size))
  clear hb6 HB5 q0 l0
  go_wp2_with fail
  refine (HIE.out _ HB6.out).mono ?_
  rintro e7 w7 ⟨rfl, hb7⟩
  have HB7 := Lib.hid (HB6.out.trans (hb7.mono HB6.out.size))
  clear hb7 HB6
  go_wp2
  go_ret
  exact ⟨rfl, HB7.out⟩
theorem chopl_walk (l : List (Int × Int)) (t f tm : Int) (a : Option Addr) (n c : Nat) (w : World) (hl : PairsR w a n l) :
    Calls Try.prog 10 #[.agg #[.slice a n c], .agg #[.int .i64 t, .int .i64 f], .int .i64 tm] w fun e' w' => e' = .returned (.bool true) ∧ Below w.heap.size w w' := by
  by_cases h : n ≤ 14
  · exact (if h0 : (impErr l).2 = 0 then chopl_main l t f tm a n c w hl h h0 else chopl_bad l t f tm a n c w hl h h0)
  · exact chopl_few t f tm a n c w hl.small h
theorem own_chopl : ownKnob Try.prog.godebug = none := by kernel_rfl
theorem laid_chopl : laidOutB Try.prog = true := by kernel_rfl
set_option maxRecDepth 100000 in
theorem chopl_lifted (os : Os) (started : os.Started) (H : Type) (enc : TypeId × Value → H) :
    ReturnsInHanded {} Try.checked os 10 .any (Rows.surgeChoppedSpec.pre6 enc Try.prog Try.f10 Rows.surgeChoppedRow.domain false) (Rows.surgeChoppedSpec.post enc Try.prog Try.f10 false true false false) := by
  refine returnsInHanded_of_change (C := Try.checked) own_chopl started (by kernel_rfl) Try.func10
    (ChangeSpec.witness6 (enc := enc) (C := Try.checked) false ⟨#[], #[.agg #[.slice none 0 0], .agg #[.int .i64 0, .int .i64 0], .int .i64 0], []⟩ 8 (by kernel_rfl) (by kernel_rfl) (by kernel_rfl) (by kernel_rfl)) ?_
  intro W base args ds gs before hval0 hW hcnd _
  have hval : ∀ (j : Nat) t v, Try.f10.params[j]? = some t → args[j]? = some v → Value.okWide Try.prog W .any base t v := hval0
  have hW' := hW
  obtain ⟨p, q, hA0, hV, rfl, hfz, hnd⟩ := hW
  have hA : DataW.TrodAll enc Try.prog W 0 (fun _ => true) true Try.f10.params.toList args.toList ds p := hA0
  rw [Try.params10] at hA hval
  obtain ⟨v0, vs0, d0, ds0, p0, q0, hargs, rfl, rfl, h0, r0⟩ := trodAll_cons hA
  obtain ⟨v1, vs1, d1, ds1, p1, q1, rfl, rfl, rfl, h1, r1⟩ := trodAll_cons r0
  obtain ⟨v2, vs2, d2, ds2, p2, q2, rfl, rfl, rfl, h2, r2⟩ := trodAll_cons r1
  obtain ⟨rfl, rfl, rfl⟩ := trodAll_nil r2
  obtain rfl : args = #[v0, v1, v2] := by cases args; simp_all
  obtain ⟨rfl, rfl⟩ := trodVars_none hV
  have k0 := h0
  have lt0 : ∀ x ∈ p0, x.block < W.heap.size := by obtain ⟨m, hm⟩ := k0; exact DataW.trod_lt m _ _ _ hm
  have k1 := h1
  have lt1 : ∀ x ∈ p1, x.block < W.heap.size := by obtain ⟨m, hm⟩ := k1; exact DataW.trod_lt m _ _ _ hm
  obtain ⟨a, n, c, l, hv0, hl⟩ := opened_impulse (hval 0 87 v0 rfl rfl) h0
  obtain ⟨cs1, hv1, hs1, he1⟩ := opened_arr (ty := 120) Try.underlying120 (by kernel_rfl) (hval 1 120 v1 rfl rfl) h1
  obtain ⟨z2, rfl, rfl, rfl, w2⟩ := open_int Try.underlying3 (hval 2 3 v2 rfl rfl) h2
  obtain ⟨z0, e0⟩ := he1 0 (by omega)
  obtain ⟨z1, e1⟩ := he1 1 (by omega)
  obtain rfl : cs1 = #[.int .i64 z0, .int .i64 z1] := by
    obtain ⟨l1⟩ := cs1
    match l1, hs1 with
    | [c0, c1], _ => simp at e0 e1; subst e0 e1; rfl
  subst hv0 hv1
  clear hA0 hval0
  refine (chopl_walk l z0 z1 z2 a n c W hl).mono fun e W' ⟨he, bel⟩ => ?_
  subst he
  exact ⟨_, rfl, _, _, _, [], _, [], hW', trodAll_mk1 (shut_bool Try.underlying4 _), (trodAll_cons_mk (Below.trod laid_chopl (by kernel_rfl) (of_decide_eq_true (by kernel_rfl)) k0 bel lt0) (trodAll_cons_mk (Below.trod laid_chopl (by kernel_rfl) (of_decide_eq_true (by kernel_rfl)) k1 bel lt1) (trodAll_cons_mk (shut_int Try.underlying3 w2) trodAll_mk0))), rfl, bel.frame _, fun h => by cases h⟩
theorem chopl_holds : Rows.SurgeChoppedSaid :=
  OpenClaim.holds_of_wide 10 Try.f10 rfl rfl rfl rfl rfl rfl rfl ⟨rfl, rfl, rfl, rfl, rfl⟩ rfl rfl rfl rfl rfl (by kernel_rfl) Try.func10 (by kernel_rfl)
    (of_decide_eq_true (by kernel_rfl)) (by unfold Func.isWrapper; first | (rw [if_pos (by decide +kernel)]; kernel_rfl) | (rw [if_neg (by decide +kernel)]; exact ⟨rfl, rfl⟩))
    (fun os started H enc _ => chopl_lifted os started H enc)
#print axioms chopl_holds
end Go.Proofs.Ytiellefbndlkkaa
