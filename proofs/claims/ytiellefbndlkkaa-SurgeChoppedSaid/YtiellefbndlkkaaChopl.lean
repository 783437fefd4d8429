/- The statement SurgeChopped: the walk. -/
import Derived.Test.YtiellefbndlkkaaShapes
import Derived.Test.YtiellefbndlkkaaChopPlain
namespace Go.Proofs.Ytiellefbndlkkaa
open Go.RowKit
set_option linter.unusedVariables false

theorem wi_at {n lo hi : Int} (h : wi n lo hi = true) : lo ≤ n ∧ n ≤ hi := by unfold wi at h; simpa using h
theorem vat_one (y : List (Int × Int)) (s v : Int) (a : Option Addr) (n c : Nat) (w : World) (hl : PairsR w a n y) (hy : (impErr y).2 = 0) (s0 : 0 ≤ s) (s1 : s ≤ 1000000) (hv : valOf y s = (v, 1)) (b0 : -1000000 ≤ v) (b1 : v ≤ 1000000) :
    Calls Try.prog 52 #[.agg #[.slice a n c], .int .i64 s] w fun e' w' => e' = .returned (.tuple #[.agg #[.int .i64 v, .int .i64 1], .int .i64 0]) ∧ Below w.heap.size w w' := by
  have := valueAt_ok y s a n c w hl hy (wi_iff.2 ⟨s0, s1⟩)
  rw [hv] at this
  simp only [low_small v b0 b1, if_true] at this
  rw [low_one] at this
  exact this
set_option maxHeartbeats 4000000 in
set_option maxRecDepth 100000 in
theorem chopl_main (l : List (Int × Int)) (t f tm : Int) (a : Option Addr) (n c : Nat) (w : World) (hl : PairsR w a n l) (h14 : n ≤ 14) (h0 : (impErr l).2 = 0) :
    Calls Try.prog 10 #[.agg #[.slice a n c], .agg #[.int .i64 t, .int .i64 f], .int .i64 tm] w fun e' w' => e' = .returned (.bool true) ∧ Below w.heap.size w w' := by
  have HL := Lib.hid hl
  have i1 : (n : Int) ≤ 14 := by omega
  obtain ⟨b0, o0, rfl, hb0, hc0⟩ := hl.addr (by have := (impErr_zero h0).1; rw [hl.len] at this; omega)
  have HC0 := Lib.hid hc0
  have HIE := Lib.hid (fun (v : World) (hv : Below w.heap.size w v) => impulseErr_any l (some ⟨b0, o0, none⟩) n c v (hl.below hv))
  rw [h0] at HIE
  have HH := Lib.hid h0
  clear hl h0 hc0
  go_enter Try.func10, Try.ntmps10
  go_wp2_with fail
  refine (awake_any _).mono ?_
  rintro e5 w5 ⟨rfl, hb5⟩
  have hz5 := hb5.size
  simp only [World.size_alloc] at hz5
  have q0 : w5.cell? ⟨w.heap.size, 0, none⟩ = some (.slice (some ⟨b0, o0, none⟩) n c) := by { rw [cellB hb5 _ _ (by first | (simp; done) | (simp; omega) | omega)]; all_goals (first | assumption | go_simp) }; have v0 : w5.cell? ⟨w.heap.size + 1, 0, none⟩ = some (.int .i64 t) := by { rw [cellB hb5 _ _ (by first | (simp; done) | (simp; omega) | omega)]; all_goals (first | assumption | go_simp) }; have v1 : w5.cell? ⟨w.heap.size + 1, 1, none⟩ = some (.int .i64 f) := by { rw [cellB hb5 _ _ (by first | (simp; done) | (simp; omega) | omega)]; all_goals (first | assumption | go_simp) }; have l0 : w.heap.size < w5.heap.size := by { omega }; have l1 : w.heap.size + 1 < w5.heap.size := by { omega }
  have HB5 := Lib.hid (show Below w.heap.size w w5 by (repeat' (first | (with_reducible exact Below.refl _ _) | (with_reducible assumption) | (with_reducible refine Below.drewN ?_ _) | (with_reducible refine Below.alloc ?_ ?_ _) | (with_reducible refine Below.drew ?_) | (with_reducible refine Below.setCell ?_ ?_ _) | (with_reducible refine Below.step (by assumption) ?_ ?_) | (with_reducible exact And.left (by assumption)) | go_size)))
  clear hb5
  go_wp2_with fail
  refine (fewPoints_any _ _ _ _ (by omega)).mono ?_
  rintro e6 w6 ⟨rfl, hb6⟩
  rw [show decide ((n : Int) ≤ 14) = true by simpa using i1]
  have hz6 := hb6.size
  have q0c : w6.cell? ⟨w.heap.size, 0, none⟩ = some (.slice (some ⟨b0, o0, none⟩) n c) := by { rw [cellB hb6 _ _ (by first | (simp; done) | (simp; omega) | omega)]; all_goals (first | assumption | go_simp) }; have v0c : w6.cell? ⟨w.heap.size + 1, 0, none⟩ = some (.int .i64 t) := by { rw [cellB hb6 _ _ (by first | (simp; done) | (simp; omega) | omega)]; all_goals (first | assumption | go_simp) }; have v1c : w6.cell? ⟨w.heap.size + 1, 1, none⟩ = some (.int .i64 f) := by { rw [cellB hb6 _ _ (by first | (simp; done) | (simp; omega) | omega)]; all_goals (first | assumption | go_simp) }; have l0c : w.heap.size < w6.heap.size := by { omega }; have l1c : w.heap.size + 1 < w6.heap.size := by { omega }
  have HB6 := Lib.hid (HB5.out.trans (hb6.mono HB5.out.size))
  clear hb6 HB5 q0 v0 v1 l0 l1
  go_wp2_with fail
  refine (HIE.out _ HB6.out).mono ?_
  rintro e7 w9 ⟨rfl, hb7⟩
  have hz7 := hb7.size
  have q0 : w9.cell? ⟨w.heap.size, 0, none⟩ = some (.slice (some ⟨b0, o0, none⟩) n c) := by { rw [cellB hb7 _ _ (by first | (simp; done) | (simp; omega) | omega)]; all_goals (first | assumption | go_simp) }; have v0 : w9.cell? ⟨w.heap.size + 1, 0, none⟩ = some (.int .i64 t) := by { rw [cellB hb7 _ _ (by first | (simp; done) | (simp; omega) | omega)]; all_goals (first | assumption | go_simp) }; have v1 : w9.cell? ⟨w.heap.size + 1, 1, none⟩ = some (.int .i64 f) := by { rw [cellB hb7 _ _ (by first | (simp; done) | (simp; omega) | omega)]; all_goals (first | assumption | go_simp) }; have l0 : w.heap.size < w9.heap.size := by { omega }; have l1 : w.heap.size + 1 < w9.heap.size := by { omega }
  have HB9 := Lib.hid (HB6.out.trans (hb7.mono HB6.out.size))
  clear hb7 HB6 q0c v0c v1c l0c l1c hz5 hz6 hz7 HIE
  go_wp2_with fail
  go_cut [7, 8] from 29 to 38 (fun v9 v10 wx => ∃ X9 aC nC cC, v9 = .pointer (some ⟨X9, 0, none⟩) ∧ v10 = .int .i64 (chE l t f) ∧ wx.cell? ⟨X9, 0, none⟩ = some (.slice aC nC cC) ∧ X9 < wx.heap.size ∧ w9.heap.size ≤ X9 ∧ Hid (PairsR wx aC nC (chL l t f)) ∧ Hid (Below w9.heap.size w9 wx))
  case first =>
    have HBv := Lib.hid HB9.out.drew
    have HNv := Lib.hid (Below.refl w9.heap.size w9).drew
    refine wp_region_laterT (B := w9.heap.size) (.head 0 (.head 2 (.head 3 (.head 4 (.head 5 (.two 1 (.two 6 (.head 7 (.head 8 (.head 9 (.one 10 (.one 11 (.head 12 .done)))))) 10 (.one 6 (.head 7 (.head 8 (.head 9 (.one 11 (.head 12 .done))))))) 10 (.one 1 (.one 6 (.head 7 (.head 8 (.head 9 (.one 11 (.head 12 .done))))))))))))) (by kernel_rfl) (by kernel_rfl) ?_
    repeat (refine tree_head rfl ?_; (show wpQuiet _ _ _ _ (_ :: _) _; go_big_quiet_step (fail)); refine wpQuiet_nil ?_)
    refine tree_two rfl rfl ?_ ?_
    · go_wp2_with fail
      refine (copyImpulse_any l _ n c _ (HL.out.below HBv.out) (by omega)).mono ?_
      rintro eL va ⟨al, clc, rfl, hbx, hl⟩
      have HLn := Lib.hid hl
      have HBv := Lib.hid (HBv.out.trans (hbx.mono HBv.out.size))
      have HNv := Lib.hid (HNv.out.trans (hbx.mono HNv.out.size))
      clear hl
      clear hbx
      go_wp2_with fail
      refine tailL_mk HNv.out ?_
      refine tree_two rfl rfl ?_ ?_
      · go_wp2_with fail
        refine (chopped_u l t f al n clc _ HLn.out).mono ?_
        rintro eT vb ⟨aC, nC, cC, rfl, hbx, hr⟩
        have HR := Lib.hid hr
        have HBv := Lib.hid (HBv.out.trans (hbx.mono HBv.out.size))
        have HNv := Lib.hid (HNv.out.trans (hbx.mono HNv.out.size))
        clear hr
        clear hbx
        go_wp2_with fail
        refine tailL_mk HNv.out ?_
        repeat (refine tree_head rfl ?_; (show wpQuiet _ _ _ _ (_ :: _) _; go_big_quiet_step (fail)); refine wpQuiet_nil ?_)
        refine tree_one rfl ?_
        go_wp2_with fail
        obtain ⟨X9, hX9⟩ : ∃ X, X = vb.heap.size := ⟨_, rfl⟩
        have hNX : w9.heap.size ≤ X9 := by rw [hX9]; exact HNv.out.size
        have hx9 : (vb.alloc (Obj.cells #[Value.slice none 0 0] 87)).heap[X9]? = some (.cells #[Value.slice none 0 0] 87) := by rw [hX9]; exact heap_alloc_new _ _
        have l9 : X9 < (vb.alloc (Obj.cells #[Value.slice none 0 0] 87)).heap.size := by rw [hX9]; simp
        have hbx : Below vb.heap.size vb (vb.alloc (Obj.cells #[Value.slice none 0 0] 87)) := by (repeat' (first | (with_reducible exact Below.refl _ _) | (with_reducible assumption) | (with_reducible refine Below.drewN ?_ _) | (with_reducible refine Below.alloc ?_ ?_ _) | (with_reducible refine Below.drew ?_) | (with_reducible refine Below.setCell ?_ ?_ _) | (with_reducible refine Below.step (by assumption) ?_ ?_) | (with_reducible exact And.left (by assumption)) | go_size))
        try simp only [← hX9]
        generalize vb.alloc (Obj.cells #[Value.slice none 0 0] 87) = vd at *
        have HBv := Lib.hid (HBv.out.trans (hbx.mono HBv.out.size))
        have HNv := Lib.hid (HNv.out.trans (hbx.mono HNv.out.size))
        clear hX9
        have HR := Lib.hid (HR.out.below hbx)
        clear hbx
        refine tailL_mk HNv.out ?_
        refine tree_one rfl ?_
        have c90 := cell_of_row _ _ 0 _ _ _ hx9
        have f90 := frozen_of_row _ _ 0 _ _ hx9
        simp only [List.getElem?_toArray, List.getElem?_cons_zero] at c90
        go_wp2_with fail
        have HN := Lib.hid (show Below w9.heap.size w9 (vd.setCell ⟨X9, 0, none⟩ (.slice aC nC cC)) from Below.setCell HNv.out hNX _)
        refine tailL_mk HN.out ?_
        repeat (refine tree_head rfl ?_; (show wpQuiet _ _ _ _ (_ :: _) _; go_big_quiet_step (fail)); refine wpQuiet_nil ?_)
        refine tree_done ?_
        go_wp2_with fail
        go_meet
        case rel => exact ⟨X9, aC, nC, cC, rfl, rfl, by go_simp, by simpa using l9, hNX, Lib.hid (pairs_stored HR.out hx9 _), HN⟩
      · go_wp2_with fail
        obtain ⟨X9, hX9⟩ : ∃ X, X = va.heap.size := ⟨_, rfl⟩
        have hNX : w9.heap.size ≤ X9 := by rw [hX9]; exact HNv.out.size
        have hx9 : (va.alloc (Obj.cells #[Value.slice none 0 0] 87)).heap[X9]? = some (.cells #[Value.slice none 0 0] 87) := by rw [hX9]; exact heap_alloc_new _ _
        have l9 : X9 < (va.alloc (Obj.cells #[Value.slice none 0 0] 87)).heap.size := by rw [hX9]; simp
        have hbx : Below va.heap.size va (va.alloc (Obj.cells #[Value.slice none 0 0] 87)) := by (repeat' (first | (with_reducible exact Below.refl _ _) | (with_reducible assumption) | (with_reducible refine Below.drewN ?_ _) | (with_reducible refine Below.alloc ?_ ?_ _) | (with_reducible refine Below.drew ?_) | (with_reducible refine Below.setCell ?_ ?_ _) | (with_reducible refine Below.step (by assumption) ?_ ?_) | (with_reducible exact And.left (by assumption)) | go_size))
        try simp only [← hX9]
        generalize va.alloc (Obj.cells #[Value.slice none 0 0] 87) = vb at *
        have HBv := Lib.hid (HBv.out.trans (hbx.mono HBv.out.size))
        have HNv := Lib.hid (HNv.out.trans (hbx.mono HNv.out.size))
        clear hX9
        have HLn := Lib.hid (HLn.out.below hbx)
        clear hbx
        refine tailL_mk HNv.out ?_
        refine tree_one rfl ?_; go_wp2_with fail
        refine (chopped_u l t f al n clc _ HLn.out).mono ?_
        rintro eT vd ⟨aC, nC, cC, rfl, hbx, hr⟩
        have HR := Lib.hid hr
        have HBv := Lib.hid (HBv.out.trans (hbx.mono HBv.out.size))
        have HNv := Lib.hid (HNv.out.trans (hbx.mono HNv.out.size))
        clear hr
        have hx9 := (hbx.block X9 l9).trans hx9
        have l9 := Nat.lt_of_lt_of_le l9 hbx.size
        clear hbx
        go_wp2_with fail
        refine tailL_mk HNv.out ?_
        repeat (refine tree_head rfl ?_; (show wpQuiet _ _ _ _ (_ :: _) _; go_big_quiet_step (fail)); refine wpQuiet_nil ?_)
        refine tree_one rfl ?_
        have c90 := cell_of_row _ _ 0 _ _ _ hx9
        have f90 := frozen_of_row _ _ 0 _ _ hx9
        simp only [List.getElem?_toArray, List.getElem?_cons_zero] at c90
        go_wp2_with fail
        have HN := Lib.hid (show Below w9.heap.size w9 (vd.setCell ⟨X9, 0, none⟩ (.slice aC nC cC)) from Below.setCell HNv.out hNX _)
        refine tailL_mk HN.out ?_
        repeat (refine tree_head rfl ?_; (show wpQuiet _ _ _ _ (_ :: _) _; go_big_quiet_step (fail)); refine wpQuiet_nil ?_)
        refine tree_done ?_
        go_wp2_with fail
        go_meet
        case rel => exact ⟨X9, aC, nC, cC, rfl, rfl, by go_simp, by simpa using l9, hNX, Lib.hid (pairs_stored HR.out hx9 _), HN⟩
    · go_wp2_with fail
      obtain ⟨X9, hX9⟩ : ∃ X, X = w9.heap.size := ⟨_, rfl⟩
      have hNX : w9.heap.size ≤ X9 := by omega
      have hx9 : (w9.alloc (Obj.cells #[Value.slice none 0 0] 87)).drew.heap[X9]? = some (.cells #[Value.slice none 0 0] 87) := by rw [hX9]; exact heap_alloc_new _ _
      have l9 : X9 < (w9.alloc (Obj.cells #[Value.slice none 0 0] 87)).drew.heap.size := by rw [hX9]; simp
      have hbx : Below w9.drew.heap.size w9.drew (w9.alloc (Obj.cells #[Value.slice none 0 0] 87)).drew := (have h0 : Below w9.heap.size w9 (w9.alloc (Obj.cells #[Value.slice none 0 0] 87)).drew := (by (repeat' (first | (with_reducible exact Below.refl _ _) | (with_reducible assumption) | (with_reducible refine Below.drewN ?_ _) | (with_reducible refine Below.alloc ?_ ?_ _) | (with_reducible refine Below.drew ?_) | (with_reducible refine Below.setCell ?_ ?_ _) | (with_reducible refine Below.step (by assumption) ?_ ?_) | (with_reducible exact And.left (by assumption)) | go_size))); ⟨h0.os, h0.tape, h0.output, h0.size, h0.block⟩)
      try simp only [← hX9]
      generalize (w9.alloc (Obj.cells #[Value.slice none 0 0] 87)).drew = va at *
      have HBv := Lib.hid (HBv.out.trans (hbx.mono HBv.out.size))
      have HNv := Lib.hid (HNv.out.trans (hbx.mono HNv.out.size))
      clear hX9 hbx
      refine tailL_mk HNv.out ?_
      refine tree_one rfl ?_; go_wp2_with fail
      refine (copyImpulse_any l _ n c _ (HL.out.below HBv.out) (by omega)).mono ?_
      rintro eL vb ⟨al, clc, rfl, hbx, hl⟩
      have HLn := Lib.hid hl
      have HBv := Lib.hid (HBv.out.trans (hbx.mono HBv.out.size))
      have HNv := Lib.hid (HNv.out.trans (hbx.mono HNv.out.size))
      clear hl
      have hx9 := (hbx.block X9 l9).trans hx9
      have l9 := Nat.lt_of_lt_of_le l9 hbx.size
      clear hbx
      go_wp2_with fail
      refine tailL_mk HNv.out ?_
      refine tree_one rfl ?_; go_wp2_with fail
      refine (chopped_u l t f al n clc _ HLn.out).mono ?_
      rintro eT vd ⟨aC, nC, cC, rfl, hbx, hr⟩
      have HR := Lib.hid hr
      have HBv := Lib.hid (HBv.out.trans (hbx.mono HBv.out.size))
      have HNv := Lib.hid (HNv.out.trans (hbx.mono HNv.out.size))
      clear hr
      have hx9 := (hbx.block X9 l9).trans hx9
      have l9 := Nat.lt_of_lt_of_le l9 hbx.size
      clear hbx
      go_wp2_with fail
      refine tailL_mk HNv.out ?_
      repeat (refine tree_head rfl ?_; (show wpQuiet _ _ _ _ (_ :: _) _; go_big_quiet_step (fail)); refine wpQuiet_nil ?_)
      refine tree_one rfl ?_
      have c90 := cell_of_row _ _ 0 _ _ _ hx9
      have f90 := frozen_of_row _ _ 0 _ _ hx9
      simp only [List.getElem?_toArray, List.getElem?_cons_zero] at c90
      go_wp2_with fail
      have HN := Lib.hid (show Below w9.heap.size w9 (vd.setCell ⟨X9, 0, none⟩ (.slice aC nC cC)) from Below.setCell HNv.out hNX _)
      refine tailL_mk HN.out ?_
      repeat (refine tree_head rfl ?_; (show wpQuiet _ _ _ _ (_ :: _) _; go_big_quiet_step (fail)); refine wpQuiet_nil ?_)
      refine tree_done ?_
      go_wp2_with fail
      go_meet
      case rel => exact ⟨X9, aC, nC, cC, rfl, rfl, by go_simp, by simpa using l9, hNX, Lib.hid (pairs_stored HR.out hx9 _), HN⟩
  case rest =>
    obtain ⟨X9, aC, nC, cC, rfl, rfl, y0c, l9c, hX9, HR, HNc⟩ := hcut
    have hbx := HNc.out
    have hzx := hbx.size
    have q0c : wc.cell? ⟨w.heap.size, 0, none⟩ = some (.slice (some ⟨b0, o0, none⟩) n c) := by { rw [cellB hbx _ _ (by first | (simp; done) | (simp; omega) | omega)]; all_goals (first | assumption | go_simp) }; have v0c : wc.cell? ⟨w.heap.size + 1, 0, none⟩ = some (.int .i64 t) := by { rw [cellB hbx _ _ (by first | (simp; done) | (simp; omega) | omega)]; all_goals (first | assumption | go_simp) }; have v1c : wc.cell? ⟨w.heap.size + 1, 1, none⟩ = some (.int .i64 f) := by { rw [cellB hbx _ _ (by first | (simp; done) | (simp; omega) | omega)]; all_goals (first | assumption | go_simp) }; have l0c : w.heap.size < wc.heap.size := by { omega }; have l1c : w.heap.size + 1 < wc.heap.size := by { omega }
    have HBv := Lib.hid (HB9.out.trans (hbx.mono HB9.out.size))
    clear hbx HNc HB9 q0 v0 v1 l0 l1
    obtain ⟨E, hE⟩ : ∃ E, E = chE l t f := ⟨_, rfl⟩
    rw [← hE]
    have HD := Lib.hid hE
    clear hE
    by_cases hE0 : E = 0
    · subst hE0
      have hc0 : chE l t f = 0 := HD.out.symm
      have hcl : chL l t f = chAll l t f := by unfold chL; rw [if_pos hc0]
      obtain ⟨_, hz1, hz2, hz3, hz4, hz5, hz6⟩ := chE_zero hc0
      have hnC : nC ≤ 12 := by have := HR.out.len; rw [hcl] at this; omega
      have HYV := Lib.hid (show (impErr (chL l t f)).2 = 0 by rw [hcl]; exact chop_valid hc0)
      have hx0 := imp_bd HH.out 0 (by have := (impErr_zero HH.out).1; omega)
      have HEND := Lib.hid (fun s (hs : t + f ≤ s) => (show valOf (chL l t f) s = (0, 1) by rw [hcl]; exact chop_end hc0 s hs))
      have HVAL := Lib.hid (fun (p : Int × Int) (hp : p ∈ l) (hpt : p.1 < t) => (show valOf (chL l t f) p.1 = (p.2, 1) by rw [hcl]; exact chop_val hc0 p hp hpt))
      have bt : 0 ≤ t ∧ t ≤ 1000000 := by omega
      have bf : 1 ≤ f ∧ f ≤ 100000 ∧ t + f ≤ 1000000 := by omega
      clear hz1 hz2 hz3 hz4 hz5 hz6 hx0 hcl hc0 HD
      have j1 : (nC : Int) ≤ 14 := by omega
      have HIE := Lib.hid (fun (v : World) (hv : PairsR v aC nC (chL l t f)) => impulseErr_any (chL l t f) aC nC cC v hv)
      rw [HYV.out] at HIE
      go_wp2_with fail
      refine (fewPoints_any _ _ _ _ (by omega)).mono ?_
      rintro e10 wd ⟨rfl, hbx⟩
      rw [show decide ((nC : Int) ≤ 14) = true by simpa using j1]
      have hzx := hbx.size
      have q0 : wd.cell? ⟨w.heap.size, 0, none⟩ = some (.slice (some ⟨b0, o0, none⟩) n c) := by { rw [cellB hbx _ _ (by first | (simp; done) | (simp; omega) | omega)]; all_goals (first | assumption | go_simp) }; have v0 : wd.cell? ⟨w.heap.size + 1, 0, none⟩ = some (.int .i64 t) := by { rw [cellB hbx _ _ (by first | (simp; done) | (simp; omega) | omega)]; all_goals (first | assumption | go_simp) }; have v1 : wd.cell? ⟨w.heap.size + 1, 1, none⟩ = some (.int .i64 f) := by { rw [cellB hbx _ _ (by first | (simp; done) | (simp; omega) | omega)]; all_goals (first | assumption | go_simp) }; have l0 : w.heap.size < wd.heap.size := by { omega }; have l1 : w.heap.size + 1 < wd.heap.size := by { omega }; have y0 : wd.cell? ⟨X9, 0, none⟩ = some (.slice aC nC cC) := by { rw [cellB hbx _ _ (by first | (simp; done) | (simp; omega) | omega)]; all_goals (first | assumption | go_simp) }; have l9 : X9 < wd.heap.size := by { omega }
      have HBv := Lib.hid (HBv.out.trans (hbx.mono HBv.out.size))
      have HR := Lib.hid (HR.out.below hbx)
      clear hbx q0c v0c v1c l0c l1c y0c l9c hzx
      go_wp2_with fail
      refine (HIE.out _ HR.out).mono ?_
      rintro e11 we ⟨rfl, hbx⟩
      have hzx := hbx.size
      have q0c : we.cell? ⟨w.heap.size, 0, none⟩ = some (.slice (some ⟨b0, o0, none⟩) n c) := by { rw [cellB hbx _ _ (by first | (simp; done) | (simp; omega) | omega)]; all_goals (first | assumption | go_simp) }; have v0c : we.cell? ⟨w.heap.size + 1, 0, none⟩ = some (.int .i64 t) := by { rw [cellB hbx _ _ (by first | (simp; done) | (simp; omega) | omega)]; all_goals (first | assumption | go_simp) }; have v1c : we.cell? ⟨w.heap.size + 1, 1, none⟩ = some (.int .i64 f) := by { rw [cellB hbx _ _ (by first | (simp; done) | (simp; omega) | omega)]; all_goals (first | assumption | go_simp) }; have l0c : w.heap.size < we.heap.size := by { omega }; have l1c : w.heap.size + 1 < we.heap.size := by { omega }; have y0c : we.cell? ⟨X9, 0, none⟩ = some (.slice aC nC cC) := by { rw [cellB hbx _ _ (by first | (simp; done) | (simp; omega) | omega)]; all_goals (first | assumption | go_simp) }; have l9c : X9 < we.heap.size := by { omega }
      have HBv := Lib.hid (HBv.out.trans (hbx.mono HBv.out.size))
      have HR := Lib.hid (HR.out.below hbx)
      clear hbx q0 v0 v1 l0 l1 y0 l9 hzx HIE
      go_wp2_with fail
      refine (copyImpulse_any (chL l t f) aC nC cC we HR.out (by omega)).mono ?_
      rintro e12 wf ⟨ag, cg, rfl, hbx, hl2⟩
      have hzx := hbx.size
      have q0 : wf.cell? ⟨w.heap.size, 0, none⟩ = some (.slice (some ⟨b0, o0, none⟩) n c) := by { rw [cellB hbx _ _ (by first | (simp; done) | (simp; omega) | omega)]; all_goals (first | assumption | go_simp) }; have v0 : wf.cell? ⟨w.heap.size + 1, 0, none⟩ = some (.int .i64 t) := by { rw [cellB hbx _ _ (by first | (simp; done) | (simp; omega) | omega)]; all_goals (first | assumption | go_simp) }; have v1 : wf.cell? ⟨w.heap.size + 1, 1, none⟩ = some (.int .i64 f) := by { rw [cellB hbx _ _ (by first | (simp; done) | (simp; omega) | omega)]; all_goals (first | assumption | go_simp) }; have l0 : w.heap.size < wf.heap.size := by { omega }; have l1 : w.heap.size + 1 < wf.heap.size := by { omega }; have y0 : wf.cell? ⟨X9, 0, none⟩ = some (.slice aC nC cC) := by { rw [cellB hbx _ _ (by first | (simp; done) | (simp; omega) | omega)]; all_goals (first | assumption | go_simp) }; have l9 : X9 < wf.heap.size := by { omega }
      have HBv := Lib.hid (HBv.out.trans (hbx.mono HBv.out.size))
      have HR := Lib.hid (HR.out.below hbx)
      have HLn := Lib.hid hl2
      clear hbx q0c v0c v1c l0c l1c y0c l9c hzx hl2
      have hck := checkImpulse_any (chL l t f) ag nC cg wf HLn.out
      rw [HYV.out] at hck
      go_wp2_with fail
      refine hck.mono ?_
      rintro e13 wg ⟨rfl, hbx⟩
      have hzx := hbx.size
      have q0c : wg.cell? ⟨w.heap.size, 0, none⟩ = some (.slice (some ⟨b0, o0, none⟩) n c) := by { rw [cellB hbx _ _ (by first | (simp; done) | (simp; omega) | omega)]; all_goals (first | assumption | go_simp) }; have v0c : wg.cell? ⟨w.heap.size + 1, 0, none⟩ = some (.int .i64 t) := by { rw [cellB hbx _ _ (by first | (simp; done) | (simp; omega) | omega)]; all_goals (first | assumption | go_simp) }; have v1c : wg.cell? ⟨w.heap.size + 1, 1, none⟩ = some (.int .i64 f) := by { rw [cellB hbx _ _ (by first | (simp; done) | (simp; omega) | omega)]; all_goals (first | assumption | go_simp) }; have l0c : w.heap.size < wg.heap.size := by { omega }; have l1c : w.heap.size + 1 < wg.heap.size := by { omega }; have y0c : wg.cell? ⟨X9, 0, none⟩ = some (.slice aC nC cC) := by { rw [cellB hbx _ _ (by first | (simp; done) | (simp; omega) | omega)]; all_goals (first | assumption | go_simp) }; have l9c : X9 < wg.heap.size := by { omega }
      have HBv := Lib.hid (HBv.out.trans (hbx.mono HBv.out.size))
      have HR := Lib.hid (HR.out.below hbx)
      clear hbx q0 v0 v1 l0 l1 y0 l9 hzx HLn
      go_wp2_with fail
      refine (copyImpulse_any (chL l t f) aC nC cC wg HR.out (by omega)).mono ?_
      rintro e14 wh ⟨ah, chh, rfl, hbx, hl2⟩
      have hzx := hbx.size
      have q0 : wh.cell? ⟨w.heap.size, 0, none⟩ = some (.slice (some ⟨b0, o0, none⟩) n c) := by { rw [cellB hbx _ _ (by first | (simp; done) | (simp; omega) | omega)]; all_goals (first | assumption | go_simp) }; have v0 : wh.cell? ⟨w.heap.size + 1, 0, none⟩ = some (.int .i64 t) := by { rw [cellB hbx _ _ (by first | (simp; done) | (simp; omega) | omega)]; all_goals (first | assumption | go_simp) }; have v1 : wh.cell? ⟨w.heap.size + 1, 1, none⟩ = some (.int .i64 f) := by { rw [cellB hbx _ _ (by first | (simp; done) | (simp; omega) | omega)]; all_goals (first | assumption | go_simp) }; have l0 : w.heap.size < wh.heap.size := by { omega }; have l1 : w.heap.size + 1 < wh.heap.size := by { omega }; have y0 : wh.cell? ⟨X9, 0, none⟩ = some (.slice aC nC cC) := by { rw [cellB hbx _ _ (by first | (simp; done) | (simp; omega) | omega)]; all_goals (first | assumption | go_simp) }; have l9 : X9 < wh.heap.size := by { omega }
      have HBv := Lib.hid (HBv.out.trans (hbx.mono HBv.out.size))
      have HR := Lib.hid (HR.out.below hbx)
      have HLn := Lib.hid hl2
      clear hbx q0c v0c v1c l0c l1c y0c l9c hzx hl2
      go_wp2_with fail
      refine (vat_one (chL l t f) (t + f) 0 ah nC chh wh HLn.out HYV.out (by omega) (by omega) (HEND.out _ (Int.le_refl _)) (by omega) (by omega)).mono ?_
      rintro e15 wi_ ⟨rfl, hbx⟩
      have hzx := hbx.size
      have q0c : wi_.cell? ⟨w.heap.size, 0, none⟩ = some (.slice (some ⟨b0, o0, none⟩) n c) := by { rw [cellB hbx _ _ (by first | (simp; done) | (simp; omega) | omega)]; all_goals (first | assumption | go_simp) }; have v0c : wi_.cell? ⟨w.heap.size + 1, 0, none⟩ = some (.int .i64 t) := by { rw [cellB hbx _ _ (by first | (simp; done) | (simp; omega) | omega)]; all_goals (first | assumption | go_simp) }; have v1c : wi_.cell? ⟨w.heap.size + 1, 1, none⟩ = some (.int .i64 f) := by { rw [cellB hbx _ _ (by first | (simp; done) | (simp; omega) | omega)]; all_goals (first | assumption | go_simp) }; have l0c : w.heap.size < wi_.heap.size := by { omega }; have l1c : w.heap.size + 1 < wi_.heap.size := by { omega }; have y0c : wi_.cell? ⟨X9, 0, none⟩ = some (.slice aC nC cC) := by { rw [cellB hbx _ _ (by first | (simp; done) | (simp; omega) | omega)]; all_goals (first | assumption | go_simp) }; have l9c : X9 < wi_.heap.size := by { omega }
      have HBv := Lib.hid (HBv.out.trans (hbx.mono HBv.out.size))
      have HR := Lib.hid (HR.out.below hbx)
      clear hbx q0 v0 v1 l0 l1 y0 l9 hzx HLn
      go_wp2_with fail
      generalize hW : wi_.alloc (Obj.cells #[.int .i64 0, .int .i64 1] 45) = wj
      have hbx : Below wi_.heap.size wi_ wj := by rw [← hW]; (repeat' (first | (with_reducible exact Below.refl _ _) | (with_reducible assumption) | (with_reducible refine Below.drewN ?_ _) | (with_reducible refine Below.alloc ?_ ?_ _) | (with_reducible refine Below.drew ?_) | (with_reducible refine Below.setCell ?_ ?_ _) | (with_reducible refine Below.step (by assumption) ?_ ?_) | (with_reducible exact And.left (by assumption)) | go_size))
      have z0 : wj.cell? ⟨wi_.heap.size, 0, none⟩ = some (.int .i64 0) := by { rw [← hW]; clear hW; go_simp }
      have z1 : wj.cell? ⟨wi_.heap.size, 1, none⟩ = some (.int .i64 1) := by { rw [← hW]; clear hW; go_simp }
      have lz : wi_.heap.size < wj.heap.size := by { rw [← hW]; simp }
      have q0 : wj.cell? ⟨w.heap.size, 0, none⟩ = some (.slice (some ⟨b0, o0, none⟩) n c) := by { rw [cellB hbx _ _ (by first | (simp; done) | (simp; omega) | omega)]; all_goals (first | assumption | go_simp) }; have v0 : wj.cell? ⟨w.heap.size + 1, 0, none⟩ = some (.int .i64 t) := by { rw [cellB hbx _ _ (by first | (simp; done) | (simp; omega) | omega)]; all_goals (first | assumption | go_simp) }; have v1 : wj.cell? ⟨w.heap.size + 1, 1, none⟩ = some (.int .i64 f) := by { rw [cellB hbx _ _ (by first | (simp; done) | (simp; omega) | omega)]; all_goals (first | assumption | go_simp) }; have l0 : w.heap.size < wj.heap.size := by { omega }; have l1 : w.heap.size + 1 < wj.heap.size := by { omega }; have y0 : wj.cell? ⟨X9, 0, none⟩ = some (.slice aC nC cC) := by { rw [cellB hbx _ _ (by first | (simp; done) | (simp; omega) | omega)]; all_goals (first | assumption | go_simp) }; have l9 : X9 < wj.heap.size := by { omega }
      have HBv := Lib.hid (HBv.out.trans (hbx.mono HBv.out.size))
      have HR := Lib.hid (HR.out.below hbx)
      clear hbx q0c v0c v1c l0c l1c y0c l9c hW
      generalize wi_.heap.size = X12 at *
      refine later_of_eq 5 (by kernel_rfl) (by kernel_rfl) ?_; simp only [List.take_succ_cons, List.take_zero, List.drop_succ_cons, List.drop_zero]; repeat go_big_quiet_step (exact calls_later (whole_any _ _))
      refine wpQuiet_nil ?_; intro wk hbx
      have hzx := hbx.size
      have q0c : wk.cell? ⟨w.heap.size, 0, none⟩ = some (.slice (some ⟨b0, o0, none⟩) n c) := by { rw [cellB hbx _ _ (by first | (simp; done) | (simp; omega) | omega)]; all_goals (first | assumption | go_simp) }; have v0c : wk.cell? ⟨w.heap.size + 1, 0, none⟩ = some (.int .i64 t) := by { rw [cellB hbx _ _ (by first | (simp; done) | (simp; omega) | omega)]; all_goals (first | assumption | go_simp) }; have v1c : wk.cell? ⟨w.heap.size + 1, 1, none⟩ = some (.int .i64 f) := by { rw [cellB hbx _ _ (by first | (simp; done) | (simp; omega) | omega)]; all_goals (first | assumption | go_simp) }; have l0c : w.heap.size < wk.heap.size := by { omega }; have l1c : w.heap.size + 1 < wk.heap.size := by { omega }; have y0c : wk.cell? ⟨X9, 0, none⟩ = some (.slice aC nC cC) := by { rw [cellB hbx _ _ (by first | (simp; done) | (simp; omega) | omega)]; all_goals (first | assumption | go_simp) }; have l9c : X9 < wk.heap.size := by { omega }
      have HBv := Lib.hid (HBv.out.trans (hbx.mono HBv.out.size))
      have HR := Lib.hid (HR.out.below hbx)
      clear hbx q0 v0 v1 l0 l1 y0 l9 hzx z0 z1 lz
      go_wp2_with fail
      go_loopw [14] (fun i wr => ∃ k : Nat, i = .int .i64 k ∧ k ≤ n ∧ Hid (Below wk.heap.size wk wr)) (fun i _ => n - (intOf i).toNat)
      case atStart => exact ⟨0, rfl, Nat.zero_le _, Lib.hid (Below.refl _ _)⟩
      case round =>
        obtain ⟨k, rfl, hk, hB⟩ := hrel
        have hbx := hB.out
        have hzx := hbx.size
        have q0 : wr.cell? ⟨w.heap.size, 0, none⟩ = some (.slice (some ⟨b0, o0, none⟩) n c) := by { rw [cellB hbx _ _ (by first | (simp; done) | (simp; omega) | omega)]; all_goals (first | assumption | go_simp) }; have v0 : wr.cell? ⟨w.heap.size + 1, 0, none⟩ = some (.int .i64 t) := by { rw [cellB hbx _ _ (by first | (simp; done) | (simp; omega) | omega)]; all_goals (first | assumption | go_simp) }; have v1 : wr.cell? ⟨w.heap.size + 1, 1, none⟩ = some (.int .i64 f) := by { rw [cellB hbx _ _ (by first | (simp; done) | (simp; omega) | omega)]; all_goals (first | assumption | go_simp) }; have l0 : w.heap.size < wr.heap.size := by { omega }; have l1 : w.heap.size + 1 < wr.heap.size := by { omega }; have y0 : wr.cell? ⟨X9, 0, none⟩ = some (.slice aC nC cC) := by { rw [cellB hbx _ _ (by first | (simp; done) | (simp; omega) | omega)]; all_goals (first | assumption | go_simp) }; have l9 : X9 < wr.heap.size := by { omega }
        have HBw := Lib.hid (HBv.out.trans (hbx.mono HBv.out.size))
        have HRw := Lib.hid (HR.out.below hbx)
        clear hbx q0c v0c v1c l0c l1c y0c l9c
        rcases Nat.lt_or_ge k n with hlt | hge
        · have hc0 := HC0.out
          obtain ⟨x, hx⟩ : ∃ x, x = (gp l k).1 := ⟨_, rfl⟩
          obtain ⟨v, hv⟩ : ∃ x, x = (gp l k).2 := ⟨_, rfl⟩
          have cx : wr.cell? ⟨b0, o0 + k * 2, none⟩ = some (.int .i64 x) := by rw [cellB HBw.out _ _ hb0, hx]; exact (hc0 k hlt).1
          have cv : wr.cell? ⟨b0, o0 + k * 2 + 1, none⟩ = some (.int .i64 v) := by rw [cellB HBw.out _ _ hb0, hv]; exact (hc0 k hlt).2
          have hln := HL.out.len
          have bxy := imp_bd HH.out k (by omega)
          rw [← hx, ← hv] at bxy
          have bx0 : 0 ≤ x := bxy.1
          have bx1 : x ≤ 1000000 := bxy.2.1
          have bv0 : -1000000 ≤ v := bxy.2.2.1
          have bv1 : v ≤ 1000000 := bxy.2.2.2
          have HVX0 := Lib.hid (fun (h : x < t) => (show valOf (chL l t f) x = (v, 1) by rw [hx, hv]; exact HVAL.out _ (gp_mem (by omega)) (by rw [← hx]; exact h)))
          have i2 : (0 : Int) ≤ (k : Int) := by omega
          have i3 : (k : Int) < (n : Int) := by omega
          have hb0r : b0 < wr.heap.size := by have := HBw.out.size; omega
          clear hx hv bxy hc0 hln
          by_cases hxt : x < t
          · have HVX := Lib.hid (HVX0.out hxt)
            go_wp2
            go_quiet (fail)
            go_wp2_with fail
            generalize hW : wr.drewN _ = wq
            have hbx : Below wr.heap.size wr wq := by rw [← hW]; (repeat' (first | (with_reducible exact Below.refl _ _) | (with_reducible assumption) | (with_reducible refine Below.drewN ?_ _) | (with_reducible refine Below.alloc ?_ ?_ _) | (with_reducible refine Below.drew ?_) | (with_reducible refine Below.setCell ?_ ?_ _) | (with_reducible refine Below.step (by assumption) ?_ ?_) | (with_reducible exact And.left (by assumption)) | go_size))
            have hzw := hbx.size
            have q0c : wq.cell? ⟨w.heap.size, 0, none⟩ = some (.slice (some ⟨b0, o0, none⟩) n c) := by { rw [cellB hbx _ _ (by first | (simp; done) | (simp; omega) | omega)]; all_goals (first | assumption | go_simp) }; have v0c : wq.cell? ⟨w.heap.size + 1, 0, none⟩ = some (.int .i64 t) := by { rw [cellB hbx _ _ (by first | (simp; done) | (simp; omega) | omega)]; all_goals (first | assumption | go_simp) }; have v1c : wq.cell? ⟨w.heap.size + 1, 1, none⟩ = some (.int .i64 f) := by { rw [cellB hbx _ _ (by first | (simp; done) | (simp; omega) | omega)]; all_goals (first | assumption | go_simp) }; have l0c : w.heap.size < wq.heap.size := by { omega }; have l1c : w.heap.size + 1 < wq.heap.size := by { omega }; have y0c : wq.cell? ⟨X9, 0, none⟩ = some (.slice aC nC cC) := by { rw [cellB hbx _ _ (by first | (simp; done) | (simp; omega) | omega)]; all_goals (first | assumption | go_simp) }; have l9c : X9 < wq.heap.size := by { omega }; have cxc : wq.cell? ⟨b0, o0 + k * 2, none⟩ = some (.int .i64 x) := by { rw [cellB hbx _ _ (by first | (simp; done) | (simp; omega) | omega)]; all_goals (first | assumption | go_simp) }; have cvc : wq.cell? ⟨b0, o0 + k * 2 + 1, none⟩ = some (.int .i64 v) := by { rw [cellB hbx _ _ (by first | (simp; done) | (simp; omega) | omega)]; all_goals (first | assumption | go_simp) }
            have hb0q : b0 < wq.heap.size := by have := hbx.size; omega
            have HRr := Lib.hid (HRw.out.below hbx)
            have HBq := Lib.hid (hB.out.trans (hbx.mono hzx))
            clear hbx hW q0 v0 v1 l0 l1 y0 l9 cx cv HRw
            go_cut [15, 16] from 88 to 128 (fun v15 v16 wx => ∃ X5, v15 = .pointer (some ⟨X5, 0, none⟩) ∧ v16 = .int .i64 0 ∧ wx.cell? ⟨X5, 0, none⟩ = some (.int .i64 v) ∧ wx.cell? ⟨X5, 1, none⟩ = some (.int .i64 1) ∧ X5 < wx.heap.size ∧ wq.heap.size ≤ X5 ∧ Hid (Below wq.heap.size wq wx))
            case first =>
              have HNv := Lib.hid (Below.refl wq.heap.size wq).drew
              have HBv := HNv
              refine wp_region_laterT (B := wq.heap.size) (.head 0 (.head 2 (.head 3 (.head 4 (.head 5 (.head 6 (.head 7 (.two 1 (.two 8 (.head 9 (.head 10 (.head 11 (.one 12 (.one 13 (.head 14 .done)))))) 12 (.one 8 (.head 9 (.head 10 (.head 11 (.one 13 (.head 14 .done))))))) 12 (.one 1 (.one 8 (.head 9 (.head 10 (.head 11 (.one 13 (.head 14 .done))))))))))))))) (by kernel_rfl) (by kernel_rfl) ?_
              repeat (refine tree_head rfl ?_; (show wpQuiet _ _ _ _ (_ :: _) _; go_big_quiet_step (fail)); refine wpQuiet_nil ?_)
              refine tree_two rfl rfl ?_ ?_
              · go_wp2_with fail
                refine (copyImpulse_any (chL l t f) _ nC cC _ (HRr.out.below HNv.out) (by omega)).mono ?_
                rintro eL va ⟨al, clc, rfl, hbx, hl⟩
                have HLn := Lib.hid hl
                have HBv := Lib.hid (HBv.out.trans (hbx.mono HBv.out.size))
                have HNv := Lib.hid (HNv.out.trans (hbx.mono HNv.out.size))
                clear hl
                clear hbx
                go_wp2_with fail
                refine tailL_mk HNv.out ?_
                refine tree_two rfl rfl ?_ ?_
                · go_wp2_with fail
                  refine (vat_one (chL l t f) x v al nC clc _ HLn.out HYV.out bx0 bx1 HVX.out bv0 bv1).mono ?_
                  rintro eT vb ⟨rfl, hbx⟩
                  have HBv := Lib.hid (HBv.out.trans (hbx.mono HBv.out.size))
                  have HNv := Lib.hid (HNv.out.trans (hbx.mono HNv.out.size))
                  clear hbx
                  go_wp2_with fail
                  refine tailL_mk HNv.out ?_
                  repeat (refine tree_head rfl ?_; (show wpQuiet _ _ _ _ (_ :: _) _; go_big_quiet_step (fail)); refine wpQuiet_nil ?_)
                  refine tree_one rfl ?_
                  go_wp2_with fail
                  obtain ⟨X5, hX5⟩ : ∃ X, X = vb.heap.size := ⟨_, rfl⟩
                  have hNX : wq.heap.size ≤ X5 := by rw [hX5]; exact HNv.out.size
                  have hx9 : (vb.alloc (Obj.cells #[Value.int .i64 0, Value.int .i64 0] 45)).heap[X5]? = some (.cells #[Value.int .i64 0, Value.int .i64 0] 45) := by rw [hX5]; exact heap_alloc_new _ _
                  have l9' : X5 < (vb.alloc (Obj.cells #[Value.int .i64 0, Value.int .i64 0] 45)).heap.size := by rw [hX5]; simp
                  have hbx : Below vb.heap.size vb (vb.alloc (Obj.cells #[Value.int .i64 0, Value.int .i64 0] 45)) := by (repeat' (first | (with_reducible exact Below.refl _ _) | (with_reducible assumption) | (with_reducible refine Below.drewN ?_ _) | (with_reducible refine Below.alloc ?_ ?_ _) | (with_reducible refine Below.drew ?_) | (with_reducible refine Below.setCell ?_ ?_ _) | (with_reducible refine Below.step (by assumption) ?_ ?_) | (with_reducible exact And.left (by assumption)) | go_size))
                  try simp only [← hX5]
                  generalize vb.alloc (Obj.cells #[Value.int .i64 0, Value.int .i64 0] 45) = vd at *
                  have HBv := Lib.hid (HBv.out.trans (hbx.mono HBv.out.size))
                  have HNv := Lib.hid (HNv.out.trans (hbx.mono HNv.out.size))
                  clear hX5
                  clear hbx
                  refine tailL_mk HNv.out ?_
                  refine tree_one rfl ?_
                  have c90 := cell_of_row _ _ 0 _ _ _ hx9
                  have c91 := cell_of_row _ _ 1 _ _ _ hx9
                  have f90 := frozen_of_row _ _ 0 _ _ hx9
                  have f91 := frozen_of_row _ _ 1 _ _ hx9
                  simp only [List.getElem?_toArray, List.getElem?_cons_zero, List.getElem?_cons_succ] at c90 c91
                  go_wp2_with fail
                  have HN := Lib.hid (show Below wq.heap.size wq ((vd.setCell ⟨X5, 0, none⟩ (.int .i64 v)).setCell ⟨X5, 1, none⟩ (.int .i64 1)) from Below.setCell (Below.setCell HNv.out hNX _) hNX _)
                  refine tailL_mk HN.out ?_
                  repeat (refine tree_head rfl ?_; (show wpQuiet _ _ _ _ (_ :: _) _; go_big_quiet_step (fail)); refine wpQuiet_nil ?_)
                  refine tree_done ?_
                  go_wp2_with fail
                  go_meet
                  case rel => exact ⟨X5, rfl, rfl, by go_simp, by go_simp, by simpa using l9', hNX, HN⟩
                · go_wp2_with fail
                  obtain ⟨X5, hX5⟩ : ∃ X, X = va.heap.size := ⟨_, rfl⟩
                  have hNX : wq.heap.size ≤ X5 := by rw [hX5]; exact HNv.out.size
                  have hx9 : (va.alloc (Obj.cells #[Value.int .i64 0, Value.int .i64 0] 45)).heap[X5]? = some (.cells #[Value.int .i64 0, Value.int .i64 0] 45) := by rw [hX5]; exact heap_alloc_new _ _
                  have l9' : X5 < (va.alloc (Obj.cells #[Value.int .i64 0, Value.int .i64 0] 45)).heap.size := by rw [hX5]; simp
                  have hbx : Below va.heap.size va (va.alloc (Obj.cells #[Value.int .i64 0, Value.int .i64 0] 45)) := by (repeat' (first | (with_reducible exact Below.refl _ _) | (with_reducible assumption) | (with_reducible refine Below.drewN ?_ _) | (with_reducible refine Below.alloc ?_ ?_ _) | (with_reducible refine Below.drew ?_) | (with_reducible refine Below.setCell ?_ ?_ _) | (with_reducible refine Below.step (by assumption) ?_ ?_) | (with_reducible exact And.left (by assumption)) | go_size))
                  try simp only [← hX5]
                  generalize va.alloc (Obj.cells #[Value.int .i64 0, Value.int .i64 0] 45) = vb at *
                  have HBv := Lib.hid (HBv.out.trans (hbx.mono HBv.out.size))
                  have HNv := Lib.hid (HNv.out.trans (hbx.mono HNv.out.size))
                  clear hX5
                  have HLn := Lib.hid (HLn.out.below hbx)
                  clear hbx
                  refine tailL_mk HNv.out ?_
                  refine tree_one rfl ?_; go_wp2_with fail
                  refine (vat_one (chL l t f) x v al nC clc _ HLn.out HYV.out bx0 bx1 HVX.out bv0 bv1).mono ?_
                  rintro eT vd ⟨rfl, hbx⟩
                  have HBv := Lib.hid (HBv.out.trans (hbx.mono HBv.out.size))
                  have HNv := Lib.hid (HNv.out.trans (hbx.mono HNv.out.size))
                  have hx9 := (hbx.block X5 l9').trans hx9
                  have l9' := Nat.lt_of_lt_of_le l9' hbx.size
                  clear hbx
                  go_wp2_with fail
                  refine tailL_mk HNv.out ?_
                  repeat (refine tree_head rfl ?_; (show wpQuiet _ _ _ _ (_ :: _) _; go_big_quiet_step (fail)); refine wpQuiet_nil ?_)
                  refine tree_one rfl ?_
                  have c90 := cell_of_row _ _ 0 _ _ _ hx9
                  have c91 := cell_of_row _ _ 1 _ _ _ hx9
                  have f90 := frozen_of_row _ _ 0 _ _ hx9
                  have f91 := frozen_of_row _ _ 1 _ _ hx9
                  simp only [List.getElem?_toArray, List.getElem?_cons_zero, List.getElem?_cons_succ] at c90 c91
                  go_wp2_with fail
                  have HN := Lib.hid (show Below wq.heap.size wq ((vd.setCell ⟨X5, 0, none⟩ (.int .i64 v)).setCell ⟨X5, 1, none⟩ (.int .i64 1)) from Below.setCell (Below.setCell HNv.out hNX _) hNX _)
                  refine tailL_mk HN.out ?_
                  repeat (refine tree_head rfl ?_; (show wpQuiet _ _ _ _ (_ :: _) _; go_big_quiet_step (fail)); refine wpQuiet_nil ?_)
                  refine tree_done ?_
                  go_wp2_with fail
                  go_meet
                  case rel => exact ⟨X5, rfl, rfl, by go_simp, by go_simp, by simpa using l9', hNX, HN⟩
              · go_wp2_with fail
                obtain ⟨X5, hX5⟩ : ∃ X, X = wq.heap.size := ⟨_, rfl⟩
                have hNX : wq.heap.size ≤ X5 := by omega
                have hx9 : (wq.alloc (Obj.cells #[Value.int .i64 0, Value.int .i64 0] 45)).drew.heap[X5]? = some (.cells #[Value.int .i64 0, Value.int .i64 0] 45) := by rw [hX5]; exact heap_alloc_new _ _
                have l9' : X5 < (wq.alloc (Obj.cells #[Value.int .i64 0, Value.int .i64 0] 45)).drew.heap.size := by rw [hX5]; simp
                have hbx : Below wq.drew.heap.size wq.drew (wq.alloc (Obj.cells #[Value.int .i64 0, Value.int .i64 0] 45)).drew := (have h0 : Below wq.heap.size wq (wq.alloc (Obj.cells #[Value.int .i64 0, Value.int .i64 0] 45)).drew := (by (repeat' (first | (with_reducible exact Below.refl _ _) | (with_reducible assumption) | (with_reducible refine Below.drewN ?_ _) | (with_reducible refine Below.alloc ?_ ?_ _) | (with_reducible refine Below.drew ?_) | (with_reducible refine Below.setCell ?_ ?_ _) | (with_reducible refine Below.step (by assumption) ?_ ?_) | (with_reducible exact And.left (by assumption)) | go_size))); ⟨h0.os, h0.tape, h0.output, h0.size, h0.block⟩)
                try simp only [← hX5]
                generalize (wq.alloc (Obj.cells #[Value.int .i64 0, Value.int .i64 0] 45)).drew = va at *
                have HBv := Lib.hid (HBv.out.trans (hbx.mono HBv.out.size))
                have HNv := Lib.hid (HNv.out.trans (hbx.mono HNv.out.size))
                clear hX5 hbx
                refine tailL_mk HNv.out ?_
                refine tree_one rfl ?_; go_wp2_with fail
                refine (copyImpulse_any (chL l t f) _ nC cC _ (HRr.out.below HNv.out) (by omega)).mono ?_
                rintro eL vb ⟨al, clc, rfl, hbx, hl⟩
                have HLn := Lib.hid hl
                have HBv := Lib.hid (HBv.out.trans (hbx.mono HBv.out.size))
                have HNv := Lib.hid (HNv.out.trans (hbx.mono HNv.out.size))
                clear hl
                have hx9 := (hbx.block X5 l9').trans hx9
                have l9' := Nat.lt_of_lt_of_le l9' hbx.size
                clear hbx
                go_wp2_with fail
                refine tailL_mk HNv.out ?_
                refine tree_one rfl ?_; go_wp2_with fail
                refine (vat_one (chL l t f) x v al nC clc _ HLn.out HYV.out bx0 bx1 HVX.out bv0 bv1).mono ?_
                rintro eT vd ⟨rfl, hbx⟩
                have HBv := Lib.hid (HBv.out.trans (hbx.mono HBv.out.size))
                have HNv := Lib.hid (HNv.out.trans (hbx.mono HNv.out.size))
                have hx9 := (hbx.block X5 l9').trans hx9
                have l9' := Nat.lt_of_lt_of_le l9' hbx.size
                clear hbx
                go_wp2_with fail
                refine tailL_mk HNv.out ?_
                repeat (refine tree_head rfl ?_; (show wpQuiet _ _ _ _ (_ :: _) _; go_big_quiet_step (fail)); refine wpQuiet_nil ?_)
                refine tree_one rfl ?_
                have c90 := cell_of_row _ _ 0 _ _ _ hx9
                have c91 := cell_of_row _ _ 1 _ _ _ hx9
                have f90 := frozen_of_row _ _ 0 _ _ hx9
                have f91 := frozen_of_row _ _ 1 _ _ hx9
                simp only [List.getElem?_toArray, List.getElem?_cons_zero, List.getElem?_cons_succ] at c90 c91
                go_wp2_with fail
                have HN := Lib.hid (show Below wq.heap.size wq ((vd.setCell ⟨X5, 0, none⟩ (.int .i64 v)).setCell ⟨X5, 1, none⟩ (.int .i64 1)) from Below.setCell (Below.setCell HNv.out hNX _) hNX _)
                refine tailL_mk HN.out ?_
                repeat (refine tree_head rfl ?_; (show wpQuiet _ _ _ _ (_ :: _) _; go_big_quiet_step (fail)); refine wpQuiet_nil ?_)
                refine tree_done ?_
                go_wp2_with fail
                go_meet
                case rel => exact ⟨X5, rfl, rfl, by go_simp, by go_simp, by simpa using l9', hNX, HN⟩
            case rest =>
              obtain ⟨X5, rfl, rfl, z0, z1, lz, hX5, HNc⟩ := hcut
              have hbx := HNc.out
              have hzq := hbx.size
              have q0 : wc.cell? ⟨w.heap.size, 0, none⟩ = some (.slice (some ⟨b0, o0, none⟩) n c) := by { rw [cellB hbx _ _ (by first | (simp; done) | (simp; omega) | omega)]; all_goals (first | assumption | go_simp) }; have v0 : wc.cell? ⟨w.heap.size + 1, 0, none⟩ = some (.int .i64 t) := by { rw [cellB hbx _ _ (by first | (simp; done) | (simp; omega) | omega)]; all_goals (first | assumption | go_simp) }; have v1 : wc.cell? ⟨w.heap.size + 1, 1, none⟩ = some (.int .i64 f) := by { rw [cellB hbx _ _ (by first | (simp; done) | (simp; omega) | omega)]; all_goals (first | assumption | go_simp) }; have l0 : w.heap.size < wc.heap.size := by { omega }; have l1 : w.heap.size + 1 < wc.heap.size := by { omega }; have y0 : wc.cell? ⟨X9, 0, none⟩ = some (.slice aC nC cC) := by { rw [cellB hbx _ _ (by first | (simp; done) | (simp; omega) | omega)]; all_goals (first | assumption | go_simp) }; have l9 : X9 < wc.heap.size := by { omega }; have cx : wc.cell? ⟨b0, o0 + k * 2, none⟩ = some (.int .i64 x) := by { rw [cellB hbx _ _ (by first | (simp; done) | (simp; omega) | omega)]; all_goals (first | assumption | go_simp) }; have cv : wc.cell? ⟨b0, o0 + k * 2 + 1, none⟩ = some (.int .i64 v) := by { rw [cellB hbx _ _ (by first | (simp; done) | (simp; omega) | omega)]; all_goals (first | assumption | go_simp) }
              have hb0c : b0 < wc.heap.size := by omega
              have HBc := Lib.hid (HBq.out.trans (hbx.mono HBq.out.size))
              have hvv : (v == v) = true := by simp
              clear hbx q0c v0c v1c l0c l1c y0c l9c cxc cvc HNc
              go_wp2_with fail
              refine later_of_eq 11 (by kernel_rfl) (by kernel_rfl) ?_; simp only [List.take_succ_cons, List.take_zero, List.drop_succ_cons, List.drop_zero]; repeat go_big_quiet_step (exact calls_later (whole_any _ _))
              refine wpQuiet_nil ?_; intro wl hbx
              have HBl := Lib.hid (HBc.out.trans (hbx.mono HBc.out.size))
              clear hbx
              go_wp2
              go_roundw
              case rel => exact ⟨k + 1, by go_num, by omega, HBl⟩
              case measure => simp [intOf]; omega
          · have hxt' : ¬ (x < t) := hxt
            go_wp2
            go_quiet (fail)
            go_wp2
            go_roundw
            case rel => exact ⟨k + 1, by go_num, by omega, Lib.hid (hB.out.drewN nq)⟩
            case measure => simp [intOf]; omega
        · obtain rfl : n = k := by omega
          clear HVAL HC0
          go_wp2_with fail
          refine (bwithin_any _ _ _ _).mono ?_
          rintro e20 _ ⟨rfl, rfl⟩
          cases hw : wi tm (t + f) 1000000
          · go_wp2_with fail
            go_ret
            exact ⟨rfl, HBw.out⟩
          · obtain ⟨u0, u1⟩ := wi_at hw
            clear hw
            go_wp2_with fail
            refine (copyImpulse_any (chL l t f) aC nC cC wr HRw.out (by omega)).mono ?_
            rintro e21 ws ⟨ai, ci, rfl, hbx, hl2⟩
            have hzy := hbx.size
            have q0c : ws.cell? ⟨w.heap.size, 0, none⟩ = some (.slice (some ⟨b0, o0, none⟩) n c) := by { rw [cellB hbx _ _ (by first | (simp; done) | (simp; omega) | omega)]; all_goals (first | assumption | go_simp) }; have v0c : ws.cell? ⟨w.heap.size + 1, 0, none⟩ = some (.int .i64 t) := by { rw [cellB hbx _ _ (by first | (simp; done) | (simp; omega) | omega)]; all_goals (first | assumption | go_simp) }; have v1c : ws.cell? ⟨w.heap.size + 1, 1, none⟩ = some (.int .i64 f) := by { rw [cellB hbx _ _ (by first | (simp; done) | (simp; omega) | omega)]; all_goals (first | assumption | go_simp) }; have l0c : w.heap.size < ws.heap.size := by { omega }; have l1c : w.heap.size + 1 < ws.heap.size := by { omega }; have y0c : ws.cell? ⟨X9, 0, none⟩ = some (.slice aC nC cC) := by { rw [cellB hbx _ _ (by first | (simp; done) | (simp; omega) | omega)]; all_goals (first | assumption | go_simp) }; have l9c : X9 < ws.heap.size := by { omega }
            have HBs := Lib.hid (HBw.out.trans (hbx.mono HBw.out.size))
            have HLn := Lib.hid hl2
            clear hbx q0 v0 v1 l0 l1 y0 l9 hzy hl2 HRw
            go_wp2_with fail
            refine (vat_one (chL l t f) tm 0 ai nC ci ws HLn.out HYV.out (by omega) (by omega) (HEND.out _ u0) (by omega) (by omega)).mono ?_
            rintro e22 wt ⟨rfl, hbx⟩
            have hzy := hbx.size
            have HBt := Lib.hid (HBs.out.trans (hbx.mono HBs.out.size))
            clear hbx q0c v0c v1c l0c l1c y0c l9c hzy HLn HBs
            go_wp2_with fail
            generalize hW : wt.alloc (Obj.cells #[.int .i64 0, .int .i64 1] 45) = wu
            have hbx : Below wt.heap.size wt wu := by rw [← hW]; (repeat' (first | (with_reducible exact Below.refl _ _) | (with_reducible assumption) | (with_reducible refine Below.drewN ?_ _) | (with_reducible refine Below.alloc ?_ ?_ _) | (with_reducible refine Below.drew ?_) | (with_reducible refine Below.setCell ?_ ?_ _) | (with_reducible refine Below.step (by assumption) ?_ ?_) | (with_reducible exact And.left (by assumption)) | go_size))
            have z0 : wu.cell? ⟨wt.heap.size, 0, none⟩ = some (.int .i64 0) := by { rw [← hW]; clear hW; go_simp }
            have z1 : wu.cell? ⟨wt.heap.size, 1, none⟩ = some (.int .i64 1) := by { rw [← hW]; clear hW; go_simp }
            have lz : wt.heap.size < wu.heap.size := by { rw [← hW]; simp }
            have HBu := Lib.hid (HBt.out.trans (hbx.mono HBt.out.size))
            clear hbx hW HBt
            generalize wt.heap.size = X13 at *
            refine later_of_eq 5 (by kernel_rfl) (by kernel_rfl) ?_; simp only [List.take_succ_cons, List.take_zero, List.drop_succ_cons, List.drop_zero]; repeat go_big_quiet_step (exact calls_later (whole_any _ _))
            refine wpQuiet_nil ?_; intro wv hbx
            have HBz := Lib.hid (HBu.out.trans (hbx.mono HBu.out.size))
            clear hbx
            go_wp2
            go_ret
            exact ⟨rfl, HBz.out⟩
    · have hE1 : (E != 0) = true := by simpa using hE0
      have hEc : E = 2 ∨ E = 8 := by
        have h := HD.out
        unfold chE at h
        rw [if_pos HH.out] at h
        split at h
        · split at h
          · exact .inr h
          · exact absurd h hE0
        · exact .inl h
      have hnC : nC = 0 := by
        have h1 : chL l t f = [] := by unfold chL; rw [if_neg (by rw [← HD.out]; exact hE0)]
        have h2 := HR.out.len
        rw [h1] at h2; simpa using h2.symm
      subst hnC
      clear hE0
      rcases hEc with rfl | rfl
      · go_wp2_with fail
        go_ret
        exact ⟨rfl, HBv.out⟩
      · go_wp2_with fail
        go_ret
        exact ⟨rfl, HBv.out⟩
end Go.Proofs.Ytiellefbndlkkaa
