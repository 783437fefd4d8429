/- The statement SurgeShapes: the walk. -/
import Derived.Test.YtiellefbndlkkaaFull
import Derived.Test.YtiellefbndlkkaaRChop
import Derived.Test.YtiellefbndlkkaaSchedT
import Derived.Deep.CutRange
namespace Go.Proofs.Ytiellefbndlkkaa
open Go.RowKit
set_option linter.unusedVariables false

theorem chopped_u (l : List (Int × Int)) (t f : Int) (a : Option Addr) (n c : Nat) (w : World) (hl : PairsR w a n l) : Calls Try.prog 71 #[.agg #[.slice a n c], .int .i64 t, .int .i64 f] w (CPost l t f w) := by
  by_cases h0 : (impErr l).2 = 0
  · exact chopped_main l t f a n c w hl h0
  · exact chopped_bad l t f a n c w hl h0
theorem pairs_stored {w : World} {a : Option Addr} {n : Nat} {l : List (Int × Int)} {X : Nat} {t : TypeId} {s0 : Option Addr} {m0 k0 : Nat} (h : PairsR w a n l) (hx : w.heap[X]? = some (.cells #[.slice s0 m0 k0] t)) (v0 : Value) :
    PairsR (w.setCell ⟨X, 0, none⟩ v0) a n l := by
  refine ⟨h.1, h.2.1, fun hn => ?_⟩
  obtain ⟨b', o', ha', hb', hc'⟩ := h.2.2 hn
  have hne : b' ≠ X := by
    rintro rfl
    have h1 := hc' 0 _ (by have := (pcells_get l 0 (by rw [h.len]; exact hn)).1; rw [Nat.zero_mul] at this; exact this)
    rw [Nat.add_zero, cell_of_row _ _ o' _ _ _ hx] at h1
    rcases o' with _ | o <;> simp at h1
  refine ⟨b', o', ha', by simpa using hb', fun i u hu => ?_⟩
  rw [World.cell?_setCell_other _ ⟨X, 0, none⟩ ⟨b', o' + i, none⟩ _ (by first | (simp; done) | (simp; exact fun h => absurd h.symm hne) | (simp; exact fun h => absurd h hne))]
  exact hc' i u hu
set_option maxHeartbeats 4000000 in
set_option maxRecDepth 100000 in
theorem shapes_main (l : List (Int × Int)) (p f0 t0 t f : Int) (a : Option Addr) (n c : Nat) (w : World) (hl : PairsR w a n l) (h14 : n ≤ 14) :
    Calls Try.prog 11 #[.agg #[.slice a n c], .agg #[.int .i64 p, .int .i64 f0, .int .i64 t0], .agg #[.int .i64 t, .int .i64 f]] w fun e' w' => e' = .returned (.bool true) ∧ Below w.heap.size w w' := by
  have HL := Lib.hid hl
  have i1 : (n : Int) ≤ 14 := by omega
  clear hl
  go_enter Try.func11, Try.ntmps11
  go_wp2_with fail
  refine (awake_any _).mono ?_
  rintro e5 w5 ⟨rfl, hb5⟩
  have hz5 := hb5.size
  simp only [World.size_alloc] at hz5
  have q0 : w5.cell? ⟨w.heap.size, 0, none⟩ = some (.slice a n c) := by { rw [cellB hb5 _ _ (by first | (simp; done) | (simp; omega) | omega)]; all_goals (first | assumption | go_simp) }; have u0 : w5.cell? ⟨w.heap.size + 1, 0, none⟩ = some (.int .i64 p) := by { rw [cellB hb5 _ _ (by first | (simp; done) | (simp; omega) | omega)]; all_goals (first | assumption | go_simp) }; have u1 : w5.cell? ⟨w.heap.size + 1, 1, none⟩ = some (.int .i64 f0) := by { rw [cellB hb5 _ _ (by first | (simp; done) | (simp; omega) | omega)]; all_goals (first | assumption | go_simp) }; have u2 : w5.cell? ⟨w.heap.size + 1, 2, none⟩ = some (.int .i64 t0) := by { rw [cellB hb5 _ _ (by first | (simp; done) | (simp; omega) | omega)]; all_goals (first | assumption | go_simp) }; have v0 : w5.cell? ⟨w.heap.size + 1 + 1, 0, none⟩ = some (.int .i64 t) := by { rw [cellB hb5 _ _ (by first | (simp; done) | (simp; omega) | omega)]; all_goals (first | assumption | go_simp) }; have v1 : w5.cell? ⟨w.heap.size + 1 + 1, 1, none⟩ = some (.int .i64 f) := by { rw [cellB hb5 _ _ (by first | (simp; done) | (simp; omega) | omega)]; all_goals (first | assumption | go_simp) }; have l0 : w.heap.size < w5.heap.size := by { omega }; have l1 : w.heap.size + 1 < w5.heap.size := by { omega }; have l2 : w.heap.size + 1 + 1 < w5.heap.size := by { omega }
  have HB5 := Lib.hid (show Below w.heap.size w w5 by (repeat' (first | (with_reducible exact Below.refl _ _) | (with_reducible assumption) | (with_reducible refine Below.drewN ?_ _) | (with_reducible refine Below.alloc ?_ ?_ _) | (with_reducible refine Below.drew ?_) | (with_reducible refine Below.setCell ?_ ?_ _) | (with_reducible refine Below.step (by assumption) ?_ ?_) | (with_reducible exact And.left (by assumption)) | go_size)))
  clear hb5
  go_wp2_with fail
  refine (fewPoints_any _ _ _ _ (by omega)).mono ?_
  rintro e6 w6 ⟨rfl, hb6⟩
  rw [show decide ((n : Int) ≤ 14) = true by simpa using i1]
  have hz6 := hb6.size
  have q0c : w6.cell? ⟨w.heap.size, 0, none⟩ = some (.slice a n c) := by { rw [cellB hb6 _ _ (by first | (simp; done) | (simp; omega) | omega)]; all_goals (first | assumption | go_simp) }; have u0c : w6.cell? ⟨w.heap.size + 1, 0, none⟩ = some (.int .i64 p) := by { rw [cellB hb6 _ _ (by first | (simp; done) | (simp; omega) | omega)]; all_goals (first | assumption | go_simp) }; have u1c : w6.cell? ⟨w.heap.size + 1, 1, none⟩ = some (.int .i64 f0) := by { rw [cellB hb6 _ _ (by first | (simp; done) | (simp; omega) | omega)]; all_goals (first | assumption | go_simp) }; have u2c : w6.cell? ⟨w.heap.size + 1, 2, none⟩ = some (.int .i64 t0) := by { rw [cellB hb6 _ _ (by first | (simp; done) | (simp; omega) | omega)]; all_goals (first | assumption | go_simp) }; have v0c : w6.cell? ⟨w.heap.size + 1 + 1, 0, none⟩ = some (.int .i64 t) := by { rw [cellB hb6 _ _ (by first | (simp; done) | (simp; omega) | omega)]; all_goals (first | assumption | go_simp) }; have v1c : w6.cell? ⟨w.heap.size + 1 + 1, 1, none⟩ = some (.int .i64 f) := by { rw [cellB hb6 _ _ (by first | (simp; done) | (simp; omega) | omega)]; all_goals (first | assumption | go_simp) }; have l0c : w.heap.size < w6.heap.size := by { omega }; have l1c : w.heap.size + 1 < w6.heap.size := by { omega }; have l2c : w.heap.size + 1 + 1 < w6.heap.size := by { omega }
  have HB6 := Lib.hid (HB5.out.trans (hb6.mono HB5.out.size))
  clear hb6 HB5 q0 u0 u1 u2 v0 v1 l0 l1 l2
  go_wp2_with fail
  refine (full_any p f0 t0 w6).mono ?_
  rintro e7 w7 ⟨aA, nA, cA, rfl, hb7, hp7⟩
  have hz7 := hb7.size
  have q0 : w7.cell? ⟨w.heap.size, 0, none⟩ = some (.slice a n c) := by { rw [cellB hb7 _ _ (by first | (simp; done) | (simp; omega) | omega)]; all_goals (first | assumption | go_simp) }; have u0 : w7.cell? ⟨w.heap.size + 1, 0, none⟩ = some (.int .i64 p) := by { rw [cellB hb7 _ _ (by first | (simp; done) | (simp; omega) | omega)]; all_goals (first | assumption | go_simp) }; have u1 : w7.cell? ⟨w.heap.size + 1, 1, none⟩ = some (.int .i64 f0) := by { rw [cellB hb7 _ _ (by first | (simp; done) | (simp; omega) | omega)]; all_goals (first | assumption | go_simp) }; have u2 : w7.cell? ⟨w.heap.size + 1, 2, none⟩ = some (.int .i64 t0) := by { rw [cellB hb7 _ _ (by first | (simp; done) | (simp; omega) | omega)]; all_goals (first | assumption | go_simp) }; have v0 : w7.cell? ⟨w.heap.size + 1 + 1, 0, none⟩ = some (.int .i64 t) := by { rw [cellB hb7 _ _ (by first | (simp; done) | (simp; omega) | omega)]; all_goals (first | assumption | go_simp) }; have v1 : w7.cell? ⟨w.heap.size + 1 + 1, 1, none⟩ = some (.int .i64 f) := by { rw [cellB hb7 _ _ (by first | (simp; done) | (simp; omega) | omega)]; all_goals (first | assumption | go_simp) }; have l0 : w.heap.size < w7.heap.size := by { omega }; have l1 : w.heap.size + 1 < w7.heap.size := by { omega }; have l2 : w.heap.size + 1 + 1 < w7.heap.size := by { omega }
  have HB7 := Lib.hid (HB6.out.trans (hb7.mono HB6.out.size))
  have HA7 := Lib.hid hp7
  clear hb7 HB6 hp7 q0c u0c u1c u2c v0c v1c l0c l1c l2c
  go_wp2_with fail
  generalize hW : w7.alloc (Obj.cells #[.slice aA nA cA] 87) = w9
  have hb9 : Below w7.heap.size w7 w9 := by rw [← hW]; (repeat' (first | (with_reducible exact Below.refl _ _) | (with_reducible assumption) | (with_reducible refine Below.drewN ?_ _) | (with_reducible refine Below.alloc ?_ ?_ _) | (with_reducible refine Below.drew ?_) | (with_reducible refine Below.setCell ?_ ?_ _) | (with_reducible refine Below.step (by assumption) ?_ ?_) | (with_reducible exact And.left (by assumption)) | go_size))
  have x0 : w9.cell? ⟨w7.heap.size, 0, none⟩ = some (.slice aA nA cA) := by { rw [← hW]; clear hW; go_simp }
  have lx : w7.heap.size < w9.heap.size := by { rw [← hW]; simp }
  have HB9 := Lib.hid (HB7.out.trans (hb9.mono HB7.out.size))
  have HA9 := Lib.hid (HA7.out.below hb9)
  have q0c : w9.cell? ⟨w.heap.size, 0, none⟩ = some (.slice a n c) := by { rw [cellB hb9 _ _ (by first | (simp; done) | (simp; omega) | omega)]; all_goals (first | assumption | go_simp) }; have u0c : w9.cell? ⟨w.heap.size + 1, 0, none⟩ = some (.int .i64 p) := by { rw [cellB hb9 _ _ (by first | (simp; done) | (simp; omega) | omega)]; all_goals (first | assumption | go_simp) }; have u1c : w9.cell? ⟨w.heap.size + 1, 1, none⟩ = some (.int .i64 f0) := by { rw [cellB hb9 _ _ (by first | (simp; done) | (simp; omega) | omega)]; all_goals (first | assumption | go_simp) }; have u2c : w9.cell? ⟨w.heap.size + 1, 2, none⟩ = some (.int .i64 t0) := by { rw [cellB hb9 _ _ (by first | (simp; done) | (simp; omega) | omega)]; all_goals (first | assumption | go_simp) }; have v0c : w9.cell? ⟨w.heap.size + 1 + 1, 0, none⟩ = some (.int .i64 t) := by { rw [cellB hb9 _ _ (by first | (simp; done) | (simp; omega) | omega)]; all_goals (first | assumption | go_simp) }; have v1c : w9.cell? ⟨w.heap.size + 1 + 1, 1, none⟩ = some (.int .i64 f) := by { rw [cellB hb9 _ _ (by first | (simp; done) | (simp; omega) | omega)]; all_goals (first | assumption | go_simp) }; have l0c : w.heap.size < w9.heap.size := by { omega }; have l1c : w.heap.size + 1 < w9.heap.size := by { omega }; have l2c : w.heap.size + 1 + 1 < w9.heap.size := by { omega }
  clear hW hb9 HB7 HA7 q0 u0 u1 u2 v0 v1 l0 l1 l2 hz5 hz6 hz7
  generalize w7.heap.size = X7 at *
  go_cut [9, 10] from 28 to 37 (fun v9 v10 wx => ∃ X9 aC nC cC, v9 = .pointer (some ⟨X9, 0, none⟩) ∧ v10 = .int .i64 (chE l t f) ∧ wx.cell? ⟨X9, 0, none⟩ = some (.slice aC nC cC) ∧ X9 < wx.heap.size ∧ w9.heap.size ≤ X9 ∧ Hid (PairsR wx aC nC (chL l t f)) ∧ Hid (Below w9.heap.size w9 wx))
  case first =>
    have HBv := Lib.hid HB9.out.drew
    have HNv := Lib.hid (Below.refl w9.heap.size w9).drew
    refine wp_region_laterT (B := w9.heap.size) (.head 0 (.head 2 (.head 3 (.head 4 (.head 5 (.two 1 (.two 6 (.head 7 (.head 8 (.head 9 (.one 10 (.one 11 (.head 12 .done)))))) 10 (.one 6 (.head 7 (.head 8 (.head 9 (.one 11 (.head 12 .done))))))) 10 (.one 1 (.one 6 (.head 7 (.head 8 (.head 9 (.one 11 (.head 12 .done))))))))))))) (by kernel_rfl) (by kernel_rfl) ?_
    repeat (refine tree_head rfl ?_; (show wpQuiet _ _ _ _ (_ :: _) _; go_big_quiet_step (fail)); refine wpQuiet_nil ?_)
    refine tree_two rfl rfl ?_ ?_
    · go_wp2_with fail
      refine (copyImpulse_any l _ n c _ (HL.out.below HBv.out) (by omega)).mono ?_
      rintro eL va ⟨al, clc, rfl, hbx, hl⟩
      have HLn := Lib.hid hl
      have HBv := Lib.hid (HBv.out.trans (hbx.mono HBv.out.size))
      have HNv := Lib.hid (HNv.out.trans (hbx.mono HNv.out.size))
      clear hl
      clear hbx
      go_wp2_with fail
      refine tailL_mk HNv.out ?_
      refine tree_two rfl rfl ?_ ?_
      · go_wp2_with fail
        refine (chopped_u l t f al n clc _ HLn.out).mono ?_
        rintro eT vb ⟨aC, nC, cC, rfl, hbx, hr⟩
        have HR := Lib.hid hr
        have HBv := Lib.hid (HBv.out.trans (hbx.mono HBv.out.size))
        have HNv := Lib.hid (HNv.out.trans (hbx.mono HNv.out.size))
        clear hr
        clear hbx
        go_wp2_with fail
        refine tailL_mk HNv.out ?_
        repeat (refine tree_head rfl ?_; (show wpQuiet _ _ _ _ (_ :: _) _; go_big_quiet_step (fail)); refine wpQuiet_nil ?_)
        refine tree_one rfl ?_
        go_wp2_with fail
        obtain ⟨X9, hX9⟩ : ∃ X, X = vb.heap.size := ⟨_, rfl⟩
        have hNX : w9.heap.size ≤ X9 := by rw [hX9]; exact HNv.out.size
        have hx9 : (vb.alloc (Obj.cells #[Value.slice none 0 0] 87)).heap[X9]? = some (.cells #[Value.slice none 0 0] 87) := by rw [hX9]; exact heap_alloc_new _ _
        have l9 : X9 < (vb.alloc (Obj.cells #[Value.slice none 0 0] 87)).heap.size := by rw [hX9]; simp
        have hbx : Below vb.heap.size vb (vb.alloc (Obj.cells #[Value.slice none 0 0] 87)) := by (repeat' (first | (with_reducible exact Below.refl _ _) | (with_reducible assumption) | (with_reducible refine Below.drewN ?_ _) | (with_reducible refine Below.alloc ?_ ?_ _) | (with_reducible refine Below.drew ?_) | (with_reducible refine Below.setCell ?_ ?_ _) | (with_reducible refine Below.step (by assumption) ?_ ?_) | (with_reducible exact And.left (by assumption)) | go_size))
        try simp only [← hX9]
        generalize vb.alloc (Obj.cells #[Value.slice none 0 0] 87) = vd at *
        have HBv := Lib.hid (HBv.out.trans (hbx.mono HBv.out.size))
        have HNv := Lib.hid (HNv.out.trans (hbx.mono HNv.out.size))
        clear hX9
        have HR := Lib.hid (HR.out.below hbx)
        clear hbx
        refine tailL_mk HNv.out ?_
        refine tree_one rfl ?_
        have c90 := cell_of_row _ _ 0 _ _ _ hx9
        have f90 := frozen_of_row _ _ 0 _ _ hx9
        simp only [List.getElem?_toArray, List.getElem?_cons_zero] at c90
        go_wp2_with fail
        have HN := Lib.hid (show Below w9.heap.size w9 (vd.setCell ⟨X9, 0, none⟩ (.slice aC nC cC)) from Below.setCell HNv.out hNX _)
        refine tailL_mk HN.out ?_
        repeat (refine tree_head rfl ?_; (show wpQuiet _ _ _ _ (_ :: _) _; go_big_quiet_step (fail)); refine wpQuiet_nil ?_)
        refine tree_done ?_
        go_wp2_with fail
        go_meet
        case rel => exact ⟨X9, aC, nC, cC, rfl, rfl, by go_simp, by simpa using l9, hNX, Lib.hid (pairs_stored HR.out hx9 _), HN⟩
      · go_wp2_with fail
        obtain ⟨X9, hX9⟩ : ∃ X, X = va.heap.size := ⟨_, rfl⟩
        have hNX : w9.heap.size ≤ X9 := by rw [hX9]; exact HNv.out.size
        have hx9 : (va.alloc (Obj.cells #[Value.slice none 0 0] 87)).heap[X9]? = some (.cells #[Value.slice none 0 0] 87) := by rw [hX9]; exact heap_alloc_new _ _
        have l9 : X9 < (va.alloc (Obj.cells #[Value.slice none 0 0] 87)).heap.size := by rw [hX9]; simp
        have hbx : Below va.heap.size va (va.alloc (Obj.cells #[Value.slice none 0 0] 87)) := by (repeat' (first | (with_reducible exact Below.refl _ _) | (with_reducible assumption) | (with_reducible refine Below.drewN ?_ _) | (with_reducible refine Below.alloc ?_ ?_ _) | (with_reducible refine Below.drew ?_) | (with_reducible refine Below.setCell ?_ ?_ _) | (with_reducible refine Below.step (by assumption) ?_ ?_) | (with_reducible exact And.left (by assumption)) | go_size))
        try simp only [← hX9]
        generalize va.alloc (Obj.cells #[Value.slice none 0 0] 87) = vb at *
        have HBv := Lib.hid (HBv.out.trans (hbx.mono HBv.out.size))
        have HNv := Lib.hid (HNv.out.trans (hbx.mono HNv.out.size))
        clear hX9
        have HLn := Lib.hid (HLn.out.below hbx)
        clear hbx
        refine tailL_mk HNv.out ?_
        refine tree_one rfl ?_; go_wp2_with fail
        refine (chopped_u l t f al n clc _ HLn.out).mono ?_
        rintro eT vd ⟨aC, nC, cC, rfl, hbx, hr⟩
        have HR := Lib.hid hr
        have HBv := Lib.hid (HBv.out.trans (hbx.mono HBv.out.size))
        have HNv := Lib.hid (HNv.out.trans (hbx.mono HNv.out.size))
        clear hr
        have hx9 := (hbx.block X9 l9).trans hx9
        have l9 := Nat.lt_of_lt_of_le l9 hbx.size
        clear hbx
        go_wp2_with fail
        refine tailL_mk HNv.out ?_
        repeat (refine tree_head rfl ?_; (show wpQuiet _ _ _ _ (_ :: _) _; go_big_quiet_step (fail)); refine wpQuiet_nil ?_)
        refine tree_one rfl ?_
        have c90 := cell_of_row _ _ 0 _ _ _ hx9
        have f90 := frozen_of_row _ _ 0 _ _ hx9
        simp only [List.getElem?_toArray, List.getElem?_cons_zero] at c90
        go_wp2_with fail
        have HN := Lib.hid (show Below w9.heap.size w9 (vd.setCell ⟨X9, 0, none⟩ (.slice aC nC cC)) from Below.setCell HNv.out hNX _)
        refine tailL_mk HN.out ?_
        repeat (refine tree_head rfl ?_; (show wpQuiet _ _ _ _ (_ :: _) _; go_big_quiet_step (fail)); refine wpQuiet_nil ?_)
        refine tree_done ?_
        go_wp2_with fail
        go_meet
        case rel => exact ⟨X9, aC, nC, cC, rfl, rfl, by go_simp, by simpa using l9, hNX, Lib.hid (pairs_stored HR.out hx9 _), HN⟩
    · go_wp2_with fail
      obtain ⟨X9, hX9⟩ : ∃ X, X = w9.heap.size := ⟨_, rfl⟩
      have hNX : w9.heap.size ≤ X9 := by omega
      have hx9 : (w9.alloc (Obj.cells #[Value.slice none 0 0] 87)).drew.heap[X9]? = some (.cells #[Value.slice none 0 0] 87) := by rw [hX9]; exact heap_alloc_new _ _
      have l9 : X9 < (w9.alloc (Obj.cells #[Value.slice none 0 0] 87)).drew.heap.size := by rw [hX9]; simp
      have hbx : Below w9.drew.heap.size w9.drew (w9.alloc (Obj.cells #[Value.slice none 0 0] 87)).drew := (have h0 : Below w9.heap.size w9 (w9.alloc (Obj.cells #[Value.slice none 0 0] 87)).drew := (by (repeat' (first | (with_reducible exact Below.refl _ _) | (with_reducible assumption) | (with_reducible refine Below.drewN ?_ _) | (with_reducible refine Below.alloc ?_ ?_ _) | (with_reducible refine Below.drew ?_) | (with_reducible refine Below.setCell ?_ ?_ _) | (with_reducible refine Below.step (by assumption) ?_ ?_) | (with_reducible exact And.left (by assumption)) | go_size))); ⟨h0.os, h0.tape, h0.output, h0.size, h0.block⟩)
      try simp only [← hX9]
      generalize (w9.alloc (Obj.cells #[Value.slice none 0 0] 87)).drew = va at *
      have HBv := Lib.hid (HBv.out.trans (hbx.mono HBv.out.size))
      have HNv := Lib.hid (HNv.out.trans (hbx.mono HNv.out.size))
      clear hX9 hbx
      refine tailL_mk HNv.out ?_
      refine tree_one rfl ?_; go_wp2_with fail
      refine (copyImpulse_any l _ n c _ (HL.out.below HBv.out) (by omega)).mono ?_
      rintro eL vb ⟨al, clc, rfl, hbx, hl⟩
      have HLn := Lib.hid hl
      have HBv := Lib.hid (HBv.out.trans (hbx.mono HBv.out.size))
      have HNv := Lib.hid (HNv.out.trans (hbx.mono HNv.out.size))
      clear hl
      have hx9 := (hbx.block X9 l9).trans hx9
      have l9 := Nat.lt_of_lt_of_le l9 hbx.size
      clear hbx
      go_wp2_with fail
      refine tailL_mk HNv.out ?_
      refine tree_one rfl ?_; go_wp2_with fail
      refine (chopped_u l t f al n clc _ HLn.out).mono ?_
      rintro eT vd ⟨aC, nC, cC, rfl, hbx, hr⟩
      have HR := Lib.hid hr
      have HBv := Lib.hid (HBv.out.trans (hbx.mono HBv.out.size))
      have HNv := Lib.hid (HNv.out.trans (hbx.mono HNv.out.size))
      clear hr
      have hx9 := (hbx.block X9 l9).trans hx9
      have l9 := Nat.lt_of_lt_of_le l9 hbx.size
      clear hbx
      go_wp2_with fail
      refine tailL_mk HNv.out ?_
      repeat (refine tree_head rfl ?_; (show wpQuiet _ _ _ _ (_ :: _) _; go_big_quiet_step (fail)); refine wpQuiet_nil ?_)
      refine tree_one rfl ?_
      have c90 := cell_of_row _ _ 0 _ _ _ hx9
      have f90 := frozen_of_row _ _ 0 _ _ hx9
      simp only [List.getElem?_toArray, List.getElem?_cons_zero] at c90
      go_wp2_with fail
      have HN := Lib.hid (show Below w9.heap.size w9 (vd.setCell ⟨X9, 0, none⟩ (.slice aC nC cC)) from Below.setCell HNv.out hNX _)
      refine tailL_mk HN.out ?_
      repeat (refine tree_head rfl ?_; (show wpQuiet _ _ _ _ (_ :: _) _; go_big_quiet_step (fail)); refine wpQuiet_nil ?_)
      refine tree_done ?_
      go_wp2_with fail
      go_meet
      case rel => exact ⟨X9, aC, nC, cC, rfl, rfl, by go_simp, by simpa using l9, hNX, Lib.hid (pairs_stored HR.out hx9 _), HN⟩
  case rest =>
    obtain ⟨X9, aC, nC, cC, rfl, rfl, y0, l9, hX9, HR, HNc⟩ := hcut
    have hbx := HNc.out
    have hzx := hbx.size
    have q0 : wc.cell? ⟨w.heap.size, 0, none⟩ = some (.slice a n c) := by { rw [cellB hbx _ _ (by first | (simp; done) | (simp; omega) | omega)]; all_goals (first | assumption | go_simp) }; have u0 : wc.cell? ⟨w.heap.size + 1, 0, none⟩ = some (.int .i64 p) := by { rw [cellB hbx _ _ (by first | (simp; done) | (simp; omega) | omega)]; all_goals (first | assumption | go_simp) }; have u1 : wc.cell? ⟨w.heap.size + 1, 1, none⟩ = some (.int .i64 f0) := by { rw [cellB hbx _ _ (by first | (simp; done) | (simp; omega) | omega)]; all_goals (first | assumption | go_simp) }; have u2 : wc.cell? ⟨w.heap.size + 1, 2, none⟩ = some (.int .i64 t0) := by { rw [cellB hbx _ _ (by first | (simp; done) | (simp; omega) | omega)]; all_goals (first | assumption | go_simp) }; have v0 : wc.cell? ⟨w.heap.size + 1 + 1, 0, none⟩ = some (.int .i64 t) := by { rw [cellB hbx _ _ (by first | (simp; done) | (simp; omega) | omega)]; all_goals (first | assumption | go_simp) }; have v1 : wc.cell? ⟨w.heap.size + 1 + 1, 1, none⟩ = some (.int .i64 f) := by { rw [cellB hbx _ _ (by first | (simp; done) | (simp; omega) | omega)]; all_goals (first | assumption | go_simp) }; have l0 : w.heap.size < wc.heap.size := by { omega }; have l1 : w.heap.size + 1 < wc.heap.size := by { omega }; have l2 : w.heap.size + 1 + 1 < wc.heap.size := by { omega }; have x0v : wc.cell? ⟨X7, 0, none⟩ = some (.slice aA nA cA) := by { rw [cellB hbx _ _ (by first | (simp; done) | (simp; omega) | omega)]; all_goals (first | assumption | go_simp) }; have lxv : X7 < wc.heap.size := by { omega }
    have HBv := Lib.hid (HB9.out.trans (hbx.mono HB9.out.size))
    have HA := Lib.hid (HA9.out.below hbx)
    clear hbx HNc HB9 HA9 q0c u0c u1c u2c v0c v1c l0c l1c l2c x0 lx
    obtain ⟨E, hE⟩ : ∃ E, E = chE l t f := ⟨_, rfl⟩
    obtain ⟨U, hU⟩ : ∃ U, U = fuE p f0 t0 := ⟨_, rfl⟩
    obtain ⟨d, hd⟩ : ∃ d, d = (impErr l).2 := ⟨_, rfl⟩
    rw [← hE, ← hU]
    have HRF := Lib.hid (fun v => rfull_any p f0 t0 v)
    rw [← hU] at HRF
    have HIE := Lib.hid (fun (v : World) (hv : Below w.heap.size w v) => impulseErr_any l a n c v (HL.out.below hv))
    rw [← hd] at HIE
    have HD := Lib.hid (And.intro hE (And.intro hU hd))
    have huu : (U != U) = false := by simp
    have hee : (E == E) = true := by simp
    clear hE hU hd
    go_wp2_with fail
    refine (HRF.out wc).mono ?_
    rintro e10 wd ⟨aW, nW, cW, rfl, hbx, hw⟩
    have hzx2 := hbx.size
    have q0c : wd.cell? ⟨w.heap.size, 0, none⟩ = some (.slice a n c) := by { rw [cellB hbx _ _ (by first | (simp; done) | (simp; omega) | omega)]; all_goals (first | assumption | go_simp) }; have u0c : wd.cell? ⟨w.heap.size + 1, 0, none⟩ = some (.int .i64 p) := by { rw [cellB hbx _ _ (by first | (simp; done) | (simp; omega) | omega)]; all_goals (first | assumption | go_simp) }; have u1c : wd.cell? ⟨w.heap.size + 1, 1, none⟩ = some (.int .i64 f0) := by { rw [cellB hbx _ _ (by first | (simp; done) | (simp; omega) | omega)]; all_goals (first | assumption | go_simp) }; have u2c : wd.cell? ⟨w.heap.size + 1, 2, none⟩ = some (.int .i64 t0) := by { rw [cellB hbx _ _ (by first | (simp; done) | (simp; omega) | omega)]; all_goals (first | assumption | go_simp) }; have v0c : wd.cell? ⟨w.heap.size + 1 + 1, 0, none⟩ = some (.int .i64 t) := by { rw [cellB hbx _ _ (by first | (simp; done) | (simp; omega) | omega)]; all_goals (first | assumption | go_simp) }; have v1c : wd.cell? ⟨w.heap.size + 1 + 1, 1, none⟩ = some (.int .i64 f) := by { rw [cellB hbx _ _ (by first | (simp; done) | (simp; omega) | omega)]; all_goals (first | assumption | go_simp) }; have l0c : w.heap.size < wd.heap.size := by { omega }; have l1c : w.heap.size + 1 < wd.heap.size := by { omega }; have l2c : w.heap.size + 1 + 1 < wd.heap.size := by { omega }; have x0w : wd.cell? ⟨X7, 0, none⟩ = some (.slice aA nA cA) := by { rw [cellB hbx _ _ (by first | (simp; done) | (simp; omega) | omega)]; all_goals (first | assumption | go_simp) }; have lxw : X7 < wd.heap.size := by { omega }; have y0w : wd.cell? ⟨X9, 0, none⟩ = some (.slice aC nC cC) := by { rw [cellB hbx _ _ (by first | (simp; done) | (simp; omega) | omega)]; all_goals (first | assumption | go_simp) }; have l9w : X9 < wd.heap.size := by { omega }
    have HBv := Lib.hid (HBv.out.trans (hbx.mono HBv.out.size))
    have HA := Lib.hid (HA.out.below hbx)
    have HR := Lib.hid (HR.out.below hbx)
    have HW := Lib.hid hw
    clear hbx hw q0 u0 u1 u2 v0 v1 l0 l1 l2 x0v lxv y0 HRF hzx hzx2
    go_wp2_with fail
    generalize hW : wd.alloc (Obj.cells #[.slice aW nW cW] 87) = we
    have hbx : Below wd.heap.size wd we := by rw [← hW]; (repeat' (first | (with_reducible exact Below.refl _ _) | (with_reducible assumption) | (with_reducible refine Below.drewN ?_ _) | (with_reducible refine Below.alloc ?_ ?_ _) | (with_reducible refine Below.drew ?_) | (with_reducible refine Below.setCell ?_ ?_ _) | (with_reducible refine Below.step (by assumption) ?_ ?_) | (with_reducible exact And.left (by assumption)) | go_size))
    have z0 : we.cell? ⟨wd.heap.size, 0, none⟩ = some (.slice aW nW cW) := by { rw [← hW]; clear hW; go_simp }
    have zf : we.frozen? ⟨wd.heap.size, 0, none⟩ = false := by { rw [← hW]; clear hW; go_simp }
    have zh : we.heap[wd.heap.size]? = some (.cells #[.slice aW nW cW] 87) := by rw [← hW]; exact heap_alloc_new _ _
    have lz : wd.heap.size < we.heap.size := by { rw [← hW]; simp }
    have q0 : we.cell? ⟨w.heap.size, 0, none⟩ = some (.slice a n c) := by { rw [cellB hbx _ _ (by first | (simp; done) | (simp; omega) | omega)]; all_goals (first | assumption | go_simp) }; have u0 : we.cell? ⟨w.heap.size + 1, 0, none⟩ = some (.int .i64 p) := by { rw [cellB hbx _ _ (by first | (simp; done) | (simp; omega) | omega)]; all_goals (first | assumption | go_simp) }; have u1 : we.cell? ⟨w.heap.size + 1, 1, none⟩ = some (.int .i64 f0) := by { rw [cellB hbx _ _ (by first | (simp; done) | (simp; omega) | omega)]; all_goals (first | assumption | go_simp) }; have u2 : we.cell? ⟨w.heap.size + 1, 2, none⟩ = some (.int .i64 t0) := by { rw [cellB hbx _ _ (by first | (simp; done) | (simp; omega) | omega)]; all_goals (first | assumption | go_simp) }; have v0 : we.cell? ⟨w.heap.size + 1 + 1, 0, none⟩ = some (.int .i64 t) := by { rw [cellB hbx _ _ (by first | (simp; done) | (simp; omega) | omega)]; all_goals (first | assumption | go_simp) }; have v1 : we.cell? ⟨w.heap.size + 1 + 1, 1, none⟩ = some (.int .i64 f) := by { rw [cellB hbx _ _ (by first | (simp; done) | (simp; omega) | omega)]; all_goals (first | assumption | go_simp) }; have l0 : w.heap.size < we.heap.size := by { omega }; have l1 : w.heap.size + 1 < we.heap.size := by { omega }; have l2 : w.heap.size + 1 + 1 < we.heap.size := by { omega }; have x0v : we.cell? ⟨X7, 0, none⟩ = some (.slice aA nA cA) := by { rw [cellB hbx _ _ (by first | (simp; done) | (simp; omega) | omega)]; all_goals (first | assumption | go_simp) }; have lxv : X7 < we.heap.size := by { omega }; have y0v : we.cell? ⟨X9, 0, none⟩ = some (.slice aC nC cC) := by { rw [cellB hbx _ _ (by first | (simp; done) | (simp; omega) | omega)]; all_goals (first | assumption | go_simp) }; have l9v : X9 < we.heap.size := by { omega }
    have HBv := Lib.hid (HBv.out.trans (hbx.mono HBv.out.size))
    have HA := Lib.hid (HA.out.below hbx)
    have HR := Lib.hid (HR.out.below hbx)
    have HW := Lib.hid (HW.out.below hbx)
    have h9d : X9 < wd.heap.size := l9w
    have hHd : w.heap.size + 1 + 1 < wd.heap.size := l2c
    clear hbx hW q0c u0c u1c u2c v0c v1c l0c l1c l2c x0w lxw y0w l9w l9 hX9
    generalize wd.heap.size = X11 at *
    go_wp2_with fail
    refine (sameImpulse_any (fuL p f0 t0) (fuL p f0 t0) aA aW nA cA nW cW we HA.out HW.out).mono ?_
    rintro e11 wf ⟨rfl, hbx⟩
    have hzx := hbx.size
    have q0c : wf.cell? ⟨w.heap.size, 0, none⟩ = some (.slice a n c) := by { rw [cellB hbx _ _ (by first | (simp; done) | (simp; omega) | omega)]; all_goals (first | assumption | go_simp) }; have u0c : wf.cell? ⟨w.heap.size + 1, 0, none⟩ = some (.int .i64 p) := by { rw [cellB hbx _ _ (by first | (simp; done) | (simp; omega) | omega)]; all_goals (first | assumption | go_simp) }; have u1c : wf.cell? ⟨w.heap.size + 1, 1, none⟩ = some (.int .i64 f0) := by { rw [cellB hbx _ _ (by first | (simp; done) | (simp; omega) | omega)]; all_goals (first | assumption | go_simp) }; have u2c : wf.cell? ⟨w.heap.size + 1, 2, none⟩ = some (.int .i64 t0) := by { rw [cellB hbx _ _ (by first | (simp; done) | (simp; omega) | omega)]; all_goals (first | assumption | go_simp) }; have v0c : wf.cell? ⟨w.heap.size + 1 + 1, 0, none⟩ = some (.int .i64 t) := by { rw [cellB hbx _ _ (by first | (simp; done) | (simp; omega) | omega)]; all_goals (first | assumption | go_simp) }; have v1c : wf.cell? ⟨w.heap.size + 1 + 1, 1, none⟩ = some (.int .i64 f) := by { rw [cellB hbx _ _ (by first | (simp; done) | (simp; omega) | omega)]; all_goals (first | assumption | go_simp) }; have l0c : w.heap.size < wf.heap.size := by { omega }; have l1c : w.heap.size + 1 < wf.heap.size := by { omega }; have l2c : w.heap.size + 1 + 1 < wf.heap.size := by { omega }; have y0w : wf.cell? ⟨X9, 0, none⟩ = some (.slice aC nC cC) := by { rw [cellB hbx _ _ (by first | (simp; done) | (simp; omega) | omega)]; all_goals (first | assumption | go_simp) }; have l9w : X9 < wf.heap.size := by { omega }; have z0w : wf.cell? ⟨X11, 0, none⟩ = some (.slice aW nW cW) := by { rw [cellB hbx _ _ (by first | (simp; done) | (simp; omega) | omega)]; all_goals (first | assumption | go_simp) }; have zfw : wf.frozen? ⟨X11, 0, none⟩ = false := by { rw [frozenB hbx _ _ (by first | (simp; done) | (simp; omega) | omega)]; all_goals (first | assumption | go_simp) }; have lzw : X11 < wf.heap.size := by { omega }
    have HBv := Lib.hid (HBv.out.trans (hbx.mono HBv.out.size))
    have HR := Lib.hid (HR.out.below hbx)
    have zh := (hbx.block X11 lz).trans zh
    clear hbx q0 u0 u1 u2 v0 v1 l0 l1 l2 x0v lxv y0v l9v z0 zf lz HA HW hzx
    rw [decide_eq_true rfl]
    go_wp2_with fail
    refine (HIE.out _ HBv.out).mono ?_
    rintro e12 wg ⟨rfl, hbx⟩
    have hzx := hbx.size
    have q0 : wg.cell? ⟨w.heap.size, 0, none⟩ = some (.slice a n c) := by { rw [cellB hbx _ _ (by first | (simp; done) | (simp; omega) | omega)]; all_goals (first | assumption | go_simp) }; have u0 : wg.cell? ⟨w.heap.size + 1, 0, none⟩ = some (.int .i64 p) := by { rw [cellB hbx _ _ (by first | (simp; done) | (simp; omega) | omega)]; all_goals (first | assumption | go_simp) }; have u1 : wg.cell? ⟨w.heap.size + 1, 1, none⟩ = some (.int .i64 f0) := by { rw [cellB hbx _ _ (by first | (simp; done) | (simp; omega) | omega)]; all_goals (first | assumption | go_simp) }; have u2 : wg.cell? ⟨w.heap.size + 1, 2, none⟩ = some (.int .i64 t0) := by { rw [cellB hbx _ _ (by first | (simp; done) | (simp; omega) | omega)]; all_goals (first | assumption | go_simp) }; have v0 : wg.cell? ⟨w.heap.size + 1 + 1, 0, none⟩ = some (.int .i64 t) := by { rw [cellB hbx _ _ (by first | (simp; done) | (simp; omega) | omega)]; all_goals (first | assumption | go_simp) }; have v1 : wg.cell? ⟨w.heap.size + 1 + 1, 1, none⟩ = some (.int .i64 f) := by { rw [cellB hbx _ _ (by first | (simp; done) | (simp; omega) | omega)]; all_goals (first | assumption | go_simp) }; have l0 : w.heap.size < wg.heap.size := by { omega }; have l1 : w.heap.size + 1 < wg.heap.size := by { omega }; have l2 : w.heap.size + 1 + 1 < wg.heap.size := by { omega }; have y0v : wg.cell? ⟨X9, 0, none⟩ = some (.slice aC nC cC) := by { rw [cellB hbx _ _ (by first | (simp; done) | (simp; omega) | omega)]; all_goals (first | assumption | go_simp) }; have l9v : X9 < wg.heap.size := by { omega }; have z0 : wg.cell? ⟨X11, 0, none⟩ = some (.slice aW nW cW) := by { rw [cellB hbx _ _ (by first | (simp; done) | (simp; omega) | omega)]; all_goals (first | assumption | go_simp) }; have zf : wg.frozen? ⟨X11, 0, none⟩ = false := by { rw [frozenB hbx _ _ (by first | (simp; done) | (simp; omega) | omega)]; all_goals (first | assumption | go_simp) }; have lz : X11 < wg.heap.size := by { omega }
    have HBv := Lib.hid (HBv.out.trans (hbx.mono HBv.out.size))
    have HR := Lib.hid (HR.out.below hbx)
    have zh := (hbx.block X11 lzw).trans zh
    clear hbx q0c u0c u1c u2c v0c v1c l0c l1c l2c y0w l9w z0w zfw lzw hzx
    by_cases hd0 : d = 0
    · have hd1 : (d != 0) = false := by simp [hd0]
      subst hd0
      have h0 : (impErr l).2 = 0 := HD.out.2.2.symm
      have HRC := Lib.hid (fun (v : World) (hv : Below w.heap.size w v) => rchopped_main l t f a n c v (HL.out.below hv) h0)
      clear h0
      go_wp2_with fail
      refine (HRC.out _ HBv.out).mono ?_
      rintro e13 wh ⟨aD, nD, cD, rfl, hbx, hr2⟩
      rw [← HD.out.1]
      have hzx := hbx.size
      have q0c : wh.cell? ⟨w.heap.size, 0, none⟩ = some (.slice a n c) := by { rw [cellB hbx _ _ (by first | (simp; done) | (simp; omega) | omega)]; all_goals (first | assumption | go_simp) }; have u0c : wh.cell? ⟨w.heap.size + 1, 0, none⟩ = some (.int .i64 p) := by { rw [cellB hbx _ _ (by first | (simp; done) | (simp; omega) | omega)]; all_goals (first | assumption | go_simp) }; have u1c : wh.cell? ⟨w.heap.size + 1, 1, none⟩ = some (.int .i64 f0) := by { rw [cellB hbx _ _ (by first | (simp; done) | (simp; omega) | omega)]; all_goals (first | assumption | go_simp) }; have u2c : wh.cell? ⟨w.heap.size + 1, 2, none⟩ = some (.int .i64 t0) := by { rw [cellB hbx _ _ (by first | (simp; done) | (simp; omega) | omega)]; all_goals (first | assumption | go_simp) }; have v0c : wh.cell? ⟨w.heap.size + 1 + 1, 0, none⟩ = some (.int .i64 t) := by { rw [cellB hbx _ _ (by first | (simp; done) | (simp; omega) | omega)]; all_goals (first | assumption | go_simp) }; have v1c : wh.cell? ⟨w.heap.size + 1 + 1, 1, none⟩ = some (.int .i64 f) := by { rw [cellB hbx _ _ (by first | (simp; done) | (simp; omega) | omega)]; all_goals (first | assumption | go_simp) }; have l0c : w.heap.size < wh.heap.size := by { omega }; have l1c : w.heap.size + 1 < wh.heap.size := by { omega }; have l2c : w.heap.size + 1 + 1 < wh.heap.size := by { omega }; have y0w : wh.cell? ⟨X9, 0, none⟩ = some (.slice aC nC cC) := by { rw [cellB hbx _ _ (by first | (simp; done) | (simp; omega) | omega)]; all_goals (first | assumption | go_simp) }; have l9w : X9 < wh.heap.size := by { omega }; have z0w : wh.cell? ⟨X11, 0, none⟩ = some (.slice aW nW cW) := by { rw [cellB hbx _ _ (by first | (simp; done) | (simp; omega) | omega)]; all_goals (first | assumption | go_simp) }; have zfw : wh.frozen? ⟨X11, 0, none⟩ = false := by { rw [frozenB hbx _ _ (by first | (simp; done) | (simp; omega) | omega)]; all_goals (first | assumption | go_simp) }; have lzw : X11 < wh.heap.size := by { omega }
      have HBv := Lib.hid (HBv.out.trans (hbx.mono HBv.out.size))
      have HR := Lib.hid (HR.out.below hbx)
      have zh := (hbx.block X11 lz).trans zh
      have HR2 := Lib.hid (pairs_stored hr2 zh (.slice aD nD cD))
      have HR3 := Lib.hid (pairs_stored HR.out zh (.slice aD nD cD))
      have HBs := Lib.hid (show Below w.heap.size w (wh.setCell ⟨X11, 0, none⟩ (.slice aD nD cD)) from Below.setCell HBv.out (by simp; omega) _)
      have hne : ¬ (X9 = X11) := by omega
      have hne2 : ¬ (X11 = X9) := by omega
      clear hbx q0 u0 u1 u2 v0 v1 l0 l1 l2 y0v l9v z0 zf lz hzx hr2 HRC
      go_wp2_with fail
      refine (sameImpulse_any (chL l t f) (chL l t f) aC aD nC cC nD cD _ HR3.out HR2.out).mono ?_
      rintro e14 wi_ ⟨rfl, hbx⟩
      have HBv := Lib.hid (HBs.out.trans (hbx.mono HBs.out.size))
      clear hbx
      rw [decide_eq_true rfl]
      go_wp2_with fail
      go_ret
      exact ⟨rfl, HBv.out⟩
    · have hd1 : (d != 0) = true := by simpa using hd0
      have hEd : E = d := by rw [HD.out.1, HD.out.2.2]; unfold chE; rw [if_neg (by rw [← HD.out.2.2]; exact hd0)]
      have hnC : nC = 0 := by
        have h1 : chL l t f = [] := by unfold chL; rw [if_neg (by rw [← HD.out.1, hEd]; exact hd0)]
        have h2 := HR.out.len
        rw [h1] at h2; simpa using h2.symm
      subst hnC hEd
      go_wp2_with fail
      go_ret
      exact ⟨rfl, HBv.out⟩
end Go.Proofs.Ytiellefbndlkkaa
