/- The statement SurgeSteps: the walk. -/
import Derived.Test.YtiellefbndlkkaaUnify
import Derived.Test.YtiellefbndlkkaaAwake
import Derived.Test.YtiellefbndlkkaaSchedT
import Derived.Deep.CutRange
namespace Go.Proofs.Ytiellefbndlkkaa
open Go.RowKit
set_option linter.unusedVariables false


/-- Integers do not lie in a block of two slices. -/
theorem ints_apart {w : World} {a : Option Addr} {n : Nat} {l : List Int} {X : Nat} {t : TypeId} {s0 s1 : Option Addr} {m0 k0 m1 k1 : Nat} (h : IntsR w a n l) (hx : w.heap[X]? = some (.cells #[.slice s0 m0 k0, .slice s1 m1 k1] t)) : n = 0 ∨ ∃ b o, a = some ⟨b, o, none⟩ ∧ b ≠ X := by
  rcases Nat.eq_zero_or_pos n with h0 | h0
  · exact .inl h0
  · obtain ⟨b, o, ha, hb, hc⟩ := h.addr h0
    refine .inr ⟨b, o, ha, ?_⟩
    rintro rfl
    have h1 := hc 0 h0
    rw [Nat.add_zero, cell_of_row _ _ o _ _ _ hx] at h1
    rcases o with _ | _ | o <;> simp at h1
theorem ints_stored {w : World} {a : Option Addr} {n : Nat} {l : List Int} {X : Nat} {t : TypeId} {s0 s1 : Option Addr} {m0 k0 m1 k1 : Nat} (h : IntsR w a n l) (hx : w.heap[X]? = some (.cells #[.slice s0 m0 k0, .slice s1 m1 k1] t)) (v0 v1 : Value) :
    IntsR ((w.setCell ⟨X, 0, none⟩ v0).setCell ⟨X, 1, none⟩ v1) a n l := by
  refine ⟨h.1, h.2.1, fun hn => ?_⟩
  rcases ints_apart h hx with h0 | ⟨b, o, ha, hne⟩
  · omega
  · obtain ⟨b', o', ha', hb', hc'⟩ := h.2.2 hn
    rw [ha] at ha'
    simp only [Option.some.injEq, Addr.mk.injEq, and_true] at ha'
    obtain ⟨rfl, rfl⟩ := ha'
    refine ⟨b, o, ha, by simpa using hb', fun i u hu => ?_⟩
    rw [World.cell?_setCell_other _ ⟨X, 1, none⟩ ⟨b, o + i, none⟩ _ (by simp), World.cell?_setCell_other _ ⟨X, 0, none⟩ ⟨b, o + i, none⟩ _ (by simp)]
    exact hc' i u hu
set_option maxHeartbeats 4000000 in
set_option maxRecDepth 100000 in
theorem steps_main (y f b : List Int) (s : Int) (a a1 a2 : Option Addr) (n c n1 c1 n2 c2 : Nat) (e : Bool) (w : World) (hy : IntsR w a n y) (hf : IntsR w a1 n1 f) (hb : IntsR w a2 n2 b) (h12 : n ≤ 12) (h1 : n1 ≤ 12) (h2 : n2 ≤ 12) :
    Calls Try.prog 6 #[.agg #[.slice a n c, .bool e], .agg #[.slice a1 n1 c1, .slice a2 n2 c2], .int .i64 s] w fun e' w' => e' = .returned (.bool true) ∧ Below w.heap.size w w' := by
  have HY := Lib.hid hy
  have HF := Lib.hid hf
  have HB := Lib.hid hb
  have i1 : (n : Int) ≤ 12 := by omega
  have i2 : decide ((n1 : Int) > 12) = false := by simp; omega
  have i3 : decide ((n2 : Int) > 12) = false := by simp; omega
  have i4 : (n1 : Int) ≤ 12 := by omega
  have i5 : (n2 : Int) ≤ 12 := by omega
  clear hy hf hb
  go_enter Try.func6, Try.ntmps6
  go_wp2_with fail
  refine (awake_any _).mono ?_
  rintro e5 w5 ⟨rfl, hb5⟩
  have hz5 := hb5.size
  simp only [World.size_alloc] at hz5
  have q0 : w5.cell? ⟨w.heap.size, 0, none⟩ = some (.slice a n c) := by { rw [cellB hb5 _ _ (by first | (simp; done) | (simp; omega) | omega)]; all_goals (first | assumption | go_simp) }; have q1 : w5.cell? ⟨w.heap.size, 1, none⟩ = some (.bool e) := by { rw [cellB hb5 _ _ (by first | (simp; done) | (simp; omega) | omega)]; all_goals (first | assumption | go_simp) }; have q2 : w5.cell? ⟨w.heap.size + 1, 0, none⟩ = some (.slice a1 n1 c1) := by { rw [cellB hb5 _ _ (by first | (simp; done) | (simp; omega) | omega)]; all_goals (first | assumption | go_simp) }; have q3 : w5.cell? ⟨w.heap.size + 1, 1, none⟩ = some (.slice a2 n2 c2) := by { rw [cellB hb5 _ _ (by first | (simp; done) | (simp; omega) | omega)]; all_goals (first | assumption | go_simp) }; have l0 : w.heap.size < w5.heap.size := by { omega }; have l1 : w.heap.size + 1 < w5.heap.size := by { omega }
  have HB5 := Lib.hid (show Below w.heap.size w w5 by (repeat' (first | (with_reducible exact Below.refl _ _) | (with_reducible assumption) | (with_reducible refine Below.drewN ?_ _) | (with_reducible refine Below.alloc ?_ ?_ _) | (with_reducible refine Below.drew ?_) | (with_reducible refine Below.setCell ?_ ?_ _) | (with_reducible refine Below.step (by assumption) ?_ ?_) | (with_reducible exact And.left (by assumption)) | go_size)))
  clear hb5
  go_wp2_with fail
  refine (fewSections_any _ _ _ _ _ (by omega)).mono ?_
  rintro e6 w6 ⟨rfl, hb6⟩
  rw [show decide ((n : Int) ≤ 12) = true by simpa using i1]
  have hz6 := hb6.size
  have q0' : w6.cell? ⟨w.heap.size, 0, none⟩ = some (.slice a n c) := by { rw [cellB hb6 _ _ (by first | (simp; done) | (simp; omega) | omega)]; all_goals (first | assumption | go_simp) }; have q1' : w6.cell? ⟨w.heap.size, 1, none⟩ = some (.bool e) := by { rw [cellB hb6 _ _ (by first | (simp; done) | (simp; omega) | omega)]; all_goals (first | assumption | go_simp) }; have q2' : w6.cell? ⟨w.heap.size + 1, 0, none⟩ = some (.slice a1 n1 c1) := by { rw [cellB hb6 _ _ (by first | (simp; done) | (simp; omega) | omega)]; all_goals (first | assumption | go_simp) }; have q3' : w6.cell? ⟨w.heap.size + 1, 1, none⟩ = some (.slice a2 n2 c2) := by { rw [cellB hb6 _ _ (by first | (simp; done) | (simp; omega) | omega)]; all_goals (first | assumption | go_simp) }; have l0' : w.heap.size < w6.heap.size := by { omega }; have l1' : w.heap.size + 1 < w6.heap.size := by { omega }
  have HB6 := Lib.hid (HB5.out.trans (hb6.mono HB5.out.size))
  clear hb6 HB5 q0 q1 q2 q3 l0 l1
  go_wp2_with fail
  refine (copyLine_any y _ n c e w6 (HY.out.below HB6.out) (by omega)).mono ?_
  rintro e7 w7 ⟨al, cl, rfl, hb7, hl7⟩
  have hz7 := hb7.size
  have q0 : w7.cell? ⟨w.heap.size, 0, none⟩ = some (.slice a n c) := by { rw [cellB hb7 _ _ (by first | (simp; done) | (simp; omega) | omega)]; all_goals (first | assumption | go_simp) }; have q1 : w7.cell? ⟨w.heap.size, 1, none⟩ = some (.bool e) := by { rw [cellB hb7 _ _ (by first | (simp; done) | (simp; omega) | omega)]; all_goals (first | assumption | go_simp) }; have q2 : w7.cell? ⟨w.heap.size + 1, 0, none⟩ = some (.slice a1 n1 c1) := by { rw [cellB hb7 _ _ (by first | (simp; done) | (simp; omega) | omega)]; all_goals (first | assumption | go_simp) }; have q3 : w7.cell? ⟨w.heap.size + 1, 1, none⟩ = some (.slice a2 n2 c2) := by { rw [cellB hb7 _ _ (by first | (simp; done) | (simp; omega) | omega)]; all_goals (first | assumption | go_simp) }; have l0 : w.heap.size < w7.heap.size := by { omega }; have l1 : w.heap.size + 1 < w7.heap.size := by { omega }
  have HB7 := Lib.hid (HB6.out.trans (hb7.mono HB6.out.size))
  have HL7 := Lib.hid hl7
  clear hb7 HB6 q0' q1' q2' q3' l0' l1' hl7
  go_wp2_with fail
  refine (begin_u y al n cl e w7 HL7.out).mono ?_
  rintro e8 w8 ⟨a3, n3, c3, a4, n4, c4, rfl, hb8, hg1, hg2⟩
  have hz8 := hb8.size
  have q0' : w8.cell? ⟨w.heap.size, 0, none⟩ = some (.slice a n c) := by { rw [cellB hb8 _ _ (by first | (simp; done) | (simp; omega) | omega)]; all_goals (first | assumption | go_simp) }; have q1' : w8.cell? ⟨w.heap.size, 1, none⟩ = some (.bool e) := by { rw [cellB hb8 _ _ (by first | (simp; done) | (simp; omega) | omega)]; all_goals (first | assumption | go_simp) }; have q2' : w8.cell? ⟨w.heap.size + 1, 0, none⟩ = some (.slice a1 n1 c1) := by { rw [cellB hb8 _ _ (by first | (simp; done) | (simp; omega) | omega)]; all_goals (first | assumption | go_simp) }; have q3' : w8.cell? ⟨w.heap.size + 1, 1, none⟩ = some (.slice a2 n2 c2) := by { rw [cellB hb8 _ _ (by first | (simp; done) | (simp; omega) | omega)]; all_goals (first | assumption | go_simp) }; have l0' : w.heap.size < w8.heap.size := by { omega }; have l1' : w.heap.size + 1 < w8.heap.size := by { omega }
  have HB8 := Lib.hid (HB7.out.trans (hb8.mono HB7.out.size))
  have HG := Lib.hid (And.intro hg1 hg2)
  clear hb8 HB7 q0 q1 q2 q3 l0 l1 hg1 hg2 HL7
  go_wp2_with fail
  generalize hW : w8.alloc (Obj.cells #[.slice a3 n3 c3, .slice a4 n4 c4] 26) = w9
  have hb9 : Below w8.heap.size w8 w9 := by rw [← hW]; (repeat' (first | (with_reducible exact Below.refl _ _) | (with_reducible assumption) | (with_reducible refine Below.drewN ?_ _) | (with_reducible refine Below.alloc ?_ ?_ _) | (with_reducible refine Below.drew ?_) | (with_reducible refine Below.setCell ?_ ?_ _) | (with_reducible refine Below.step (by assumption) ?_ ?_) | (with_reducible exact And.left (by assumption)) | go_size))
  have x0 : w9.cell? ⟨w8.heap.size, 0, none⟩ = some (.slice a3 n3 c3) := by { rw [← hW]; clear hW; go_simp }
  have x1 : w9.cell? ⟨w8.heap.size, 1, none⟩ = some (.slice a4 n4 c4) := by { rw [← hW]; clear hW; go_simp }
  have l7 : w8.heap.size < w9.heap.size := by { rw [← hW]; simp }
  have q0 : w9.cell? ⟨w.heap.size, 0, none⟩ = some (.slice a n c) := by { rw [cellB hb9 _ _ (by first | (simp; done) | (simp; omega) | omega)]; all_goals (first | assumption | go_simp) }; have q1 : w9.cell? ⟨w.heap.size, 1, none⟩ = some (.bool e) := by { rw [cellB hb9 _ _ (by first | (simp; done) | (simp; omega) | omega)]; all_goals (first | assumption | go_simp) }; have q2 : w9.cell? ⟨w.heap.size + 1, 0, none⟩ = some (.slice a1 n1 c1) := by { rw [cellB hb9 _ _ (by first | (simp; done) | (simp; omega) | omega)]; all_goals (first | assumption | go_simp) }; have q3 : w9.cell? ⟨w.heap.size + 1, 1, none⟩ = some (.slice a2 n2 c2) := by { rw [cellB hb9 _ _ (by first | (simp; done) | (simp; omega) | omega)]; all_goals (first | assumption | go_simp) }
  have l0 : w.heap.size < w9.heap.size := by omega
  have l1 : w.heap.size + 1 < w9.heap.size := by omega
  have HB9 := Lib.hid (HB8.out.trans (hb9.mono HB8.out.size))
  have HG9 := Lib.hid (And.intro (HG.out.1.below hb9) (HG.out.2.below hb9))
  have hX7 : w.heap.size + 1 < w8.heap.size := l1'
  clear hW hb9 HB8 q0' q1' q2' q3' l0' l1' HG hz8 hz7 hz6 hz5
  generalize w8.heap.size = X7 at *
  go_cut [9, 10, 11] from 41 to 50 (fun v9 v10 v11 wx => ∃ X9 aF nF cF aB nB cB aV nV cV, v9 = .pointer (some ⟨X9, 0, none⟩) ∧ v10 = .slice aV nV cV ∧ v11 = .int .i64 (srE y f b s e) ∧ wx.cell? ⟨X9, 0, none⟩ = some (.slice aF nF cF) ∧ wx.cell? ⟨X9, 1, none⟩ = some (.slice aB nB cB) ∧ X9 < wx.heap.size ∧
      Hid (IntsR wx aF nF (srL y f b s e (outF y f b s)) ∧ IntsR wx aB nB (srL y f b s e (outB y f b e)) ∧ IntsR wx aV nV (srL y f b s e (outV y f b s e))) ∧ Hid (Below w9.heap.size w9 wx))
  case first =>
    have HBv := Lib.hid HB9.out.drew
    have HNv := Lib.hid (Below.refl w9.heap.size w9).drew
    refine wp_region_laterT (B := w9.heap.size) (.head 0 (.head 2 (.head 4 (.two 1 (.two 3 (.two 5 (.head 6 (.head 7 (.head 8 (.head 9 (.one 10 (.one 11 (.head 12 (.head 13 .done)))))))) 10 (.one 5 (.head 6 (.head 7 (.head 8 (.head 9 (.one 11 (.head 12 (.head 13 .done))))))))) 10 (.one 3 (.one 5 (.head 6 (.head 7 (.head 8 (.head 9 (.one 11 (.head 12 (.head 13 .done)))))))))) 10 (.one 1 (.one 3 (.one 5 (.head 6 (.head 7 (.head 8 (.head 9 (.one 11 (.head 12 (.head 13 .done)))))))))))))) (by kernel_rfl) (by kernel_rfl) ?_
    repeat (refine tree_head rfl ?_; (show wpQuiet _ _ _ _ (_ :: _) _; go_big_quiet_step (fail)); refine wpQuiet_nil ?_)
    refine tree_two rfl rfl ?_ ?_
    · go_wp2_with fail
      refine (copyLine_any y _ n c e _ (HY.out.below HBv.out) (by omega)).mono ?_
      rintro eL va ⟨al, cl, rfl, hbx, hl⟩
      have HLn := Lib.hid hl
      have HBv := Lib.hid (HBv.out.trans (hbx.mono HBv.out.size))
      have HNv := Lib.hid (HNv.out.trans (hbx.mono HNv.out.size))
      clear hl
      clear hbx
      go_wp2_with fail
      refine tailL_mk HNv.out ?_
      refine tree_two rfl rfl ?_ ?_
      · go_wp2_with fail
        refine (copyState_any f b _ _ n1 c1 n2 c2 _ (HF.out.below HBv.out) (HB.out.below HBv.out) (by omega) (by omega)).mono ?_
        rintro eS vb ⟨a5, c5, a6, c6, rfl, hbx, hs1, hs2⟩
        have HSt := Lib.hid (And.intro hs1 hs2)
        have HBv := Lib.hid (HBv.out.trans (hbx.mono HBv.out.size))
        have HNv := Lib.hid (HNv.out.trans (hbx.mono HNv.out.size))
        clear hs1 hs2
        have HLn := Lib.hid (HLn.out.below hbx)
        clear hbx
        go_wp2_with fail
        refine tailL_mk HNv.out ?_
        refine tree_two rfl rfl ?_ ?_
        · go_wp2_with fail
          refine (step_u y f b s al a5 a6 n cl n1 c5 n2 c6 e _ HLn.out HSt.out.1 HSt.out.2 (by omega) (by omega)).mono ?_
          rintro eT vc ⟨hbx, aF, nF, cF, aB, nB, cB, aV, nV, cV, rfl, hr1, hr2, hr3⟩
          have HR := Lib.hid (And.intro hr1 (And.intro hr2 hr3))
          have HBv := Lib.hid (HBv.out.trans (hbx.mono HBv.out.size))
          have HNv := Lib.hid (HNv.out.trans (hbx.mono HNv.out.size))
          clear hr1 hr2 hr3
          clear hbx
          go_wp2_with fail
          refine tailL_mk HNv.out ?_
          repeat (refine tree_head rfl ?_; (show wpQuiet _ _ _ _ (_ :: _) _; go_big_quiet_step (fail)); refine wpQuiet_nil ?_)
          refine tree_one rfl ?_
          go_wp2_with fail
          obtain ⟨X9, hX9⟩ : ∃ X, X = vc.heap.size := ⟨_, rfl⟩
          have hNX : w9.heap.size ≤ X9 := by rw [hX9]; exact HNv.out.size
          have hx9 : (vc.alloc (Obj.cells #[Value.slice none 0 0, Value.slice none 0 0] 26)).heap[X9]? = some (.cells #[Value.slice none 0 0, Value.slice none 0 0] 26) := by rw [hX9]; exact heap_alloc_new _ _
          have l9 : X9 < (vc.alloc (Obj.cells #[Value.slice none 0 0, Value.slice none 0 0] 26)).heap.size := by rw [hX9]; simp
          have hbx : Below vc.heap.size vc (vc.alloc (Obj.cells #[Value.slice none 0 0, Value.slice none 0 0] 26)) := by (repeat' (first | (with_reducible exact Below.refl _ _) | (with_reducible assumption) | (with_reducible refine Below.drewN ?_ _) | (with_reducible refine Below.alloc ?_ ?_ _) | (with_reducible refine Below.drew ?_) | (with_reducible refine Below.setCell ?_ ?_ _) | (with_reducible refine Below.step (by assumption) ?_ ?_) | (with_reducible exact And.left (by assumption)) | go_size))
          try rw [← hX9]
          try simp only [← hX9]
          generalize vc.alloc (Obj.cells #[Value.slice none 0 0, Value.slice none 0 0] 26) = vd at *
          have HBv := Lib.hid (HBv.out.trans (hbx.mono HBv.out.size))
          have HNv := Lib.hid (HNv.out.trans (hbx.mono HNv.out.size))
          clear hX9
          have HR := Lib.hid (And.intro (HR.out.1.below hbx) (And.intro (HR.out.2.1.below hbx) (HR.out.2.2.below hbx)))
          clear hbx
          refine tailL_mk HNv.out ?_
          refine tree_one rfl ?_
          have c90 := cell_of_row _ _ 0 _ _ _ hx9
          have c91 := cell_of_row _ _ 1 _ _ _ hx9
          have f90 := frozen_of_row _ _ 0 _ _ hx9
          have f91 := frozen_of_row _ _ 1 _ _ hx9
          simp only [List.getElem?_toArray, List.getElem?_cons_zero, List.getElem?_cons_succ] at c90 c91
          go_wp2_with fail
          have HN := Lib.hid (show Below w9.heap.size w9 ((vd.setCell ⟨X9, 0, none⟩ (.slice aF nF cF)).setCell ⟨X9, 1, none⟩ (.slice aB nB cB)) from Below.setCell (Below.setCell HNv.out hNX _) hNX _)
          refine tailL_mk HN.out ?_
          repeat (refine tree_head rfl ?_; (show wpQuiet _ _ _ _ (_ :: _) _; go_big_quiet_step (fail)); refine wpQuiet_nil ?_)
          refine tree_done ?_
          go_wp2_with fail
          go_meet
          case rel => exact ⟨X9, aF, nF, cF, aB, nB, cB, aV, nV, cV, rfl, rfl, rfl, by go_simp, by go_simp, by simpa using l9, Lib.hid ⟨ints_stored HR.out.1 hx9 _ _, ints_stored HR.out.2.1 hx9 _ _, ints_stored HR.out.2.2 hx9 _ _⟩, HN⟩
        · go_wp2_with fail
          obtain ⟨X9, hX9⟩ : ∃ X, X = vb.heap.size := ⟨_, rfl⟩
          have hNX : w9.heap.size ≤ X9 := by rw [hX9]; exact HNv.out.size
          have hx9 : (vb.alloc (Obj.cells #[Value.slice none 0 0, Value.slice none 0 0] 26)).heap[X9]? = some (.cells #[Value.slice none 0 0, Value.slice none 0 0] 26) := by rw [hX9]; exact heap_alloc_new _ _
          have l9 : X9 < (vb.alloc (Obj.cells #[Value.slice none 0 0, Value.slice none 0 0] 26)).heap.size := by rw [hX9]; simp
          have hbx : Below vb.heap.size vb (vb.alloc (Obj.cells #[Value.slice none 0 0, Value.slice none 0 0] 26)) := by (repeat' (first | (with_reducible exact Below.refl _ _) | (with_reducible assumption) | (with_reducible refine Below.drewN ?_ _) | (with_reducible refine Below.alloc ?_ ?_ _) | (with_reducible refine Below.drew ?_) | (with_reducible refine Below.setCell ?_ ?_ _) | (with_reducible refine Below.step (by assumption) ?_ ?_) | (with_reducible exact And.left (by assumption)) | go_size))
          try rw [← hX9]
          try simp only [← hX9]
          generalize vb.alloc (Obj.cells #[Value.slice none 0 0, Value.slice none 0 0] 26) = vc at *
          have HBv := Lib.hid (HBv.out.trans (hbx.mono HBv.out.size))
          have HNv := Lib.hid (HNv.out.trans (hbx.mono HNv.out.size))
          clear hX9
          have HLn := Lib.hid (HLn.out.below hbx)
          have HSt := Lib.hid (And.intro (HSt.out.1.below hbx) (HSt.out.2.below hbx))
          clear hbx
          refine tailL_mk HNv.out ?_
          refine tree_one rfl ?_; go_wp2_with fail
          refine (step_u y f b s al a5 a6 n cl n1 c5 n2 c6 e _ HLn.out HSt.out.1 HSt.out.2 (by omega) (by omega)).mono ?_
          rintro eT vd ⟨hbx, aF, nF, cF, aB, nB, cB, aV, nV, cV, rfl, hr1, hr2, hr3⟩
          have HR := Lib.hid (And.intro hr1 (And.intro hr2 hr3))
          have HBv := Lib.hid (HBv.out.trans (hbx.mono HBv.out.size))
          have HNv := Lib.hid (HNv.out.trans (hbx.mono HNv.out.size))
          clear hr1 hr2 hr3
          have hx9 := (hbx.block X9 l9).trans hx9
          have l9 := Nat.lt_of_lt_of_le l9 hbx.size
          clear hbx
          go_wp2_with fail
          refine tailL_mk HNv.out ?_
          repeat (refine tree_head rfl ?_; (show wpQuiet _ _ _ _ (_ :: _) _; go_big_quiet_step (fail)); refine wpQuiet_nil ?_)
          refine tree_one rfl ?_
          have c90 := cell_of_row _ _ 0 _ _ _ hx9
          have c91 := cell_of_row _ _ 1 _ _ _ hx9
          have f90 := frozen_of_row _ _ 0 _ _ hx9
          have f91 := frozen_of_row _ _ 1 _ _ hx9
          simp only [List.getElem?_toArray, List.getElem?_cons_zero, List.getElem?_cons_succ] at c90 c91
          go_wp2_with fail
          have HN := Lib.hid (show Below w9.heap.size w9 ((vd.setCell ⟨X9, 0, none⟩ (.slice aF nF cF)).setCell ⟨X9, 1, none⟩ (.slice aB nB cB)) from Below.setCell (Below.setCell HNv.out hNX _) hNX _)
          refine tailL_mk HN.out ?_
          repeat (refine tree_head rfl ?_; (show wpQuiet _ _ _ _ (_ :: _) _; go_big_quiet_step (fail)); refine wpQuiet_nil ?_)
          refine tree_done ?_
          go_wp2_with fail
          go_meet
          case rel => exact ⟨X9, aF, nF, cF, aB, nB, cB, aV, nV, cV, rfl, rfl, rfl, by go_simp, by go_simp, by simpa using l9, Lib.hid ⟨ints_stored HR.out.1 hx9 _ _, ints_stored HR.out.2.1 hx9 _ _, ints_stored HR.out.2.2 hx9 _ _⟩, HN⟩
      · go_wp2_with fail
        obtain ⟨X9, hX9⟩ : ∃ X, X = va.heap.size := ⟨_, rfl⟩
        have hNX : w9.heap.size ≤ X9 := by rw [hX9]; exact HNv.out.size
        have hx9 : (va.alloc (Obj.cells #[Value.slice none 0 0, Value.slice none 0 0] 26)).heap[X9]? = some (.cells #[Value.slice none 0 0, Value.slice none 0 0] 26) := by rw [hX9]; exact heap_alloc_new _ _
        have l9 : X9 < (va.alloc (Obj.cells #[Value.slice none 0 0, Value.slice none 0 0] 26)).heap.size := by rw [hX9]; simp
        have hbx : Below va.heap.size va (va.alloc (Obj.cells #[Value.slice none 0 0, Value.slice none 0 0] 26)) := by (repeat' (first | (with_reducible exact Below.refl _ _) | (with_reducible assumption) | (with_reducible refine Below.drewN ?_ _) | (with_reducible refine Below.alloc ?_ ?_ _) | (with_reducible refine Below.drew ?_) | (with_reducible refine Below.setCell ?_ ?_ _) | (with_reducible refine Below.step (by assumption) ?_ ?_) | (with_reducible exact And.left (by assumption)) | go_size))
        try rw [← hX9]
        try simp only [← hX9]
        generalize va.alloc (Obj.cells #[Value.slice none 0 0, Value.slice none 0 0] 26) = vb at *
        have HBv := Lib.hid (HBv.out.trans (hbx.mono HBv.out.size))
        have HNv := Lib.hid (HNv.out.trans (hbx.mono HNv.out.size))
        clear hX9
        have HLn := Lib.hid (HLn.out.below hbx)
        clear hbx
        refine tailL_mk HNv.out ?_
        refine tree_one rfl ?_; go_wp2_with fail
        refine (copyState_any f b _ _ n1 c1 n2 c2 _ (HF.out.below HBv.out) (HB.out.below HBv.out) (by omega) (by omega)).mono ?_
        rintro eS vc ⟨a5, c5, a6, c6, rfl, hbx, hs1, hs2⟩
        have HSt := Lib.hid (And.intro hs1 hs2)
        have HBv := Lib.hid (HBv.out.trans (hbx.mono HBv.out.size))
        have HNv := Lib.hid (HNv.out.trans (hbx.mono HNv.out.size))
        clear hs1 hs2
        have HLn := Lib.hid (HLn.out.below hbx)
        have hx9 := (hbx.block X9 l9).trans hx9
        have l9 := Nat.lt_of_lt_of_le l9 hbx.size
        clear hbx
        go_wp2_with fail
        refine tailL_mk HNv.out ?_
        refine tree_one rfl ?_; go_wp2_with fail
        refine (step_u y f b s al a5 a6 n cl n1 c5 n2 c6 e _ HLn.out HSt.out.1 HSt.out.2 (by omega) (by omega)).mono ?_
        rintro eT vd ⟨hbx, aF, nF, cF, aB, nB, cB, aV, nV, cV, rfl, hr1, hr2, hr3⟩
        have HR := Lib.hid (And.intro hr1 (And.intro hr2 hr3))
        have HBv := Lib.hid (HBv.out.trans (hbx.mono HBv.out.size))
        have HNv := Lib.hid (HNv.out.trans (hbx.mono HNv.out.size))
        clear hr1 hr2 hr3
        have hx9 := (hbx.block X9 l9).trans hx9
        have l9 := Nat.lt_of_lt_of_le l9 hbx.size
        clear hbx
        go_wp2_with fail
        refine tailL_mk HNv.out ?_
        repeat (refine tree_head rfl ?_; (show wpQuiet _ _ _ _ (_ :: _) _; go_big_quiet_step (fail)); refine wpQuiet_nil ?_)
        refine tree_one rfl ?_
        have c90 := cell_of_row _ _ 0 _ _ _ hx9
        have c91 := cell_of_row _ _ 1 _ _ _ hx9
        have f90 := frozen_of_row _ _ 0 _ _ hx9
        have f91 := frozen_of_row _ _ 1 _ _ hx9
        simp only [List.getElem?_toArray, List.getElem?_cons_zero, List.getElem?_cons_succ] at c90 c91
        go_wp2_with fail
        have HN := Lib.hid (show Below w9.heap.size w9 ((vd.setCell ⟨X9, 0, none⟩ (.slice aF nF cF)).setCell ⟨X9, 1, none⟩ (.slice aB nB cB)) from Below.setCell (Below.setCell HNv.out hNX _) hNX _)
        refine tailL_mk HN.out ?_
        repeat (refine tree_head rfl ?_; (show wpQuiet _ _ _ _ (_ :: _) _; go_big_quiet_step (fail)); refine wpQuiet_nil ?_)
        refine tree_done ?_
        go_wp2_with fail
        go_meet
        case rel => exact ⟨X9, aF, nF, cF, aB, nB, cB, aV, nV, cV, rfl, rfl, rfl, by go_simp, by go_simp, by simpa using l9, Lib.hid ⟨ints_stored HR.out.1 hx9 _ _, ints_stored HR.out.2.1 hx9 _ _, ints_stored HR.out.2.2 hx9 _ _⟩, HN⟩
    · go_wp2_with fail
      obtain ⟨X9, hX9⟩ : ∃ X, X = w9.heap.size := ⟨_, rfl⟩
      have hNX : w9.heap.size ≤ X9 := by omega
      have hx9 : (w9.alloc (Obj.cells #[Value.slice none 0 0, Value.slice none 0 0] 26)).drew.heap[X9]? = some (.cells #[Value.slice none 0 0, Value.slice none 0 0] 26) := by rw [hX9]; exact heap_alloc_new _ _
      have l9 : X9 < (w9.alloc (Obj.cells #[Value.slice none 0 0, Value.slice none 0 0] 26)).drew.heap.size := by rw [hX9]; simp
      have hbx : Below w9.drew.heap.size w9.drew (w9.alloc (Obj.cells #[Value.slice none 0 0, Value.slice none 0 0] 26)).drew := (have h0 : Below w9.heap.size w9 (w9.alloc (Obj.cells #[Value.slice none 0 0, Value.slice none 0 0] 26)).drew := (by (repeat' (first | (with_reducible exact Below.refl _ _) | (with_reducible assumption) | (with_reducible refine Below.drewN ?_ _) | (with_reducible refine Below.alloc ?_ ?_ _) | (with_reducible refine Below.drew ?_) | (with_reducible refine Below.setCell ?_ ?_ _) | (with_reducible refine Below.step (by assumption) ?_ ?_) | (with_reducible exact And.left (by assumption)) | go_size))); ⟨h0.os, h0.tape, h0.output, h0.size, h0.block⟩)
      try simp only [← hX9]
      generalize (w9.alloc (Obj.cells #[Value.slice none 0 0, Value.slice none 0 0] 26)).drew = va at *
      have HBv := Lib.hid (HBv.out.trans (hbx.mono HBv.out.size))
      have HNv := Lib.hid (HNv.out.trans (hbx.mono HNv.out.size))
      clear hX9 hbx
      refine tailL_mk HNv.out ?_
      refine tree_one rfl ?_; go_wp2_with fail
      refine (copyLine_any y _ n c e _ (HY.out.below HBv.out) (by omega)).mono ?_
      rintro eL vb ⟨al, cl, rfl, hbx, hl⟩
      have HLn := Lib.hid hl
      have HBv := Lib.hid (HBv.out.trans (hbx.mono HBv.out.size))
      have HNv := Lib.hid (HNv.out.trans (hbx.mono HNv.out.size))
      clear hl
      have hx9 := (hbx.block X9 l9).trans hx9
      have l9 := Nat.lt_of_lt_of_le l9 hbx.size
      clear hbx
      go_wp2_with fail
      refine tailL_mk HNv.out ?_
      refine tree_one rfl ?_; go_wp2_with fail
      refine (copyState_any f b _ _ n1 c1 n2 c2 _ (HF.out.below HBv.out) (HB.out.below HBv.out) (by omega) (by omega)).mono ?_
      rintro eS vc ⟨a5, c5, a6, c6, rfl, hbx, hs1, hs2⟩
      have HSt := Lib.hid (And.intro hs1 hs2)
      have HBv := Lib.hid (HBv.out.trans (hbx.mono HBv.out.size))
      have HNv := Lib.hid (HNv.out.trans (hbx.mono HNv.out.size))
      clear hs1 hs2
      have HLn := Lib.hid (HLn.out.below hbx)
      have hx9 := (hbx.block X9 l9).trans hx9
      have l9 := Nat.lt_of_lt_of_le l9 hbx.size
      clear hbx
      go_wp2_with fail
      refine tailL_mk HNv.out ?_
      refine tree_one rfl ?_; go_wp2_with fail
      refine (step_u y f b s al a5 a6 n cl n1 c5 n2 c6 e _ HLn.out HSt.out.1 HSt.out.2 (by omega) (by omega)).mono ?_
      rintro eT vd ⟨hbx, aF, nF, cF, aB, nB, cB, aV, nV, cV, rfl, hr1, hr2, hr3⟩
      have HR := Lib.hid (And.intro hr1 (And.intro hr2 hr3))
      have HBv := Lib.hid (HBv.out.trans (hbx.mono HBv.out.size))
      have HNv := Lib.hid (HNv.out.trans (hbx.mono HNv.out.size))
      clear hr1 hr2 hr3
      have hx9 := (hbx.block X9 l9).trans hx9
      have l9 := Nat.lt_of_lt_of_le l9 hbx.size
      clear hbx
      go_wp2_with fail
      refine tailL_mk HNv.out ?_
      repeat (refine tree_head rfl ?_; (show wpQuiet _ _ _ _ (_ :: _) _; go_big_quiet_step (fail)); refine wpQuiet_nil ?_)
      refine tree_one rfl ?_
      have c90 := cell_of_row _ _ 0 _ _ _ hx9
      have c91 := cell_of_row _ _ 1 _ _ _ hx9
      have f90 := frozen_of_row _ _ 0 _ _ hx9
      have f91 := frozen_of_row _ _ 1 _ _ hx9
      simp only [List.getElem?_toArray, List.getElem?_cons_zero, List.getElem?_cons_succ] at c90 c91
      go_wp2_with fail
      have HN := Lib.hid (show Below w9.heap.size w9 ((vd.setCell ⟨X9, 0, none⟩ (.slice aF nF cF)).setCell ⟨X9, 1, none⟩ (.slice aB nB cB)) from Below.setCell (Below.setCell HNv.out hNX _) hNX _)
      refine tailL_mk HN.out ?_
      repeat (refine tree_head rfl ?_; (show wpQuiet _ _ _ _ (_ :: _) _; go_big_quiet_step (fail)); refine wpQuiet_nil ?_)
      refine tree_done ?_
      go_wp2_with fail
      go_meet
      case rel => exact ⟨X9, aF, nF, cF, aB, nB, cB, aV, nV, cV, rfl, rfl, rfl, by go_simp, by go_simp, by simpa using l9, Lib.hid ⟨ints_stored HR.out.1 hx9 _ _, ints_stored HR.out.2.1 hx9 _ _, ints_stored HR.out.2.2 hx9 _ _⟩, HN⟩
  case rest =>
    obtain ⟨X9, aF, nF, cF, aB, nB, cB, aV, nV, cV, rfl, rfl, rfl, y0c, y1c, l9c, HR, HNc⟩ := hcut
    have hbx := HNc.out
    have hzx := hbx.size
    have q0c : wc.cell? ⟨w.heap.size, 0, none⟩ = some (.slice a n c) := by { rw [cellB hbx _ _ (by first | (simp; done) | (simp; omega) | omega)]; all_goals (first | assumption | go_simp) }; have q1c : wc.cell? ⟨w.heap.size, 1, none⟩ = some (.bool e) := by { rw [cellB hbx _ _ (by first | (simp; done) | (simp; omega) | omega)]; all_goals (first | assumption | go_simp) }; have q2c : wc.cell? ⟨w.heap.size + 1, 0, none⟩ = some (.slice a1 n1 c1) := by { rw [cellB hbx _ _ (by first | (simp; done) | (simp; omega) | omega)]; all_goals (first | assumption | go_simp) }; have q3c : wc.cell? ⟨w.heap.size + 1, 1, none⟩ = some (.slice a2 n2 c2) := by { rw [cellB hbx _ _ (by first | (simp; done) | (simp; omega) | omega)]; all_goals (first | assumption | go_simp) }; have x0c : wc.cell? ⟨X7, 0, none⟩ = some (.slice a3 n3 c3) := by { rw [cellB hbx _ _ (by first | (simp; done) | (simp; omega) | omega)]; all_goals (first | assumption | go_simp) }; have x1c : wc.cell? ⟨X7, 1, none⟩ = some (.slice a4 n4 c4) := by { rw [cellB hbx _ _ (by first | (simp; done) | (simp; omega) | omega)]; all_goals (first | assumption | go_simp) }
    have l0c : w.heap.size < wc.heap.size := by omega
    have l1c : w.heap.size + 1 < wc.heap.size := by omega
    have l7c : X7 < wc.heap.size := by omega
    have HBv := Lib.hid (HB9.out.trans (hbx.mono HB9.out.size))
    have HG := Lib.hid (And.intro (HG9.out.1.below hbx) (HG9.out.2.below hbx))
    clear hbx HNc HB9 HG9 q0 q1 q2 q3 x0 x1 l0 l1 l7 hX7 hzx
    obtain ⟨d, hd⟩ : ∃ d, d = lineErr y := ⟨_, rfl⟩
    obtain ⟨E, hE⟩ : ∃ E, E = srE y f b s e := ⟨_, rfl⟩
    obtain ⟨T, hT⟩ : ∃ T, T = stErr y f b := ⟨_, rfl⟩
    obtain ⟨M, hM⟩ : ∃ M, M = enOf y f b := ⟨_, rfl⟩
    rw [← hd, ← hE]
    have HLE := Lib.hid (fun (v : World) (hv : Below w.heap.size w v) => lineErr_any y a n c e v (HY.out.below hv))
    have HSE := Lib.hid (fun (v : World) (hv : Below w.heap.size w v) => rstateErr_any y f b a a1 a2 n c n1 c1 n2 c2 e v (HY.out.below hv) (HF.out.below hv) (HB.out.below hv))
    rw [← hd] at HLE
    rw [← hT] at HSE
    have HD := Lib.hid (And.intro hd (And.intro hE (And.intro hT hM)))
    clear hd hE hT hM
    go_wp2_with fail
    refine wp_region_laterM (B := wc.heap.size) [(true, 0), (true, 2), (false, 1), (false, 3), (false, 4), (true, 5), (true, 6), (true, 7), (true, 8), (true, 9)] (by kernel_rfl) (by kernel_rfl) ?_; simp only [opsOf, List.filterMap_cons, List.filterMap_nil, List.getElem?_toArray, List.getElem?_cons_zero, List.getElem?_cons_succ, Option.map_some]
    repeat (refine mix_head ?_; (show wpQuiet _ _ _ _ (_ :: _) _; go_big_quiet_step (fail)); refine wpQuiet_nil ?_)
    refine mix_tail ?_; go_wp2_with fail
    refine (copyLine_any y _ n c e _ (HY.out.below HBv.out.drew) (by omega)).mono ?_
    rintro e10 va ⟨ac, cc, rfl, hba, hla⟩
    have HNv := Lib.hid ((Below.refl wc.heap.size wc).drew.trans hba)
    have HBu := Lib.hid (HBv.out.trans (HNv.out.mono HBv.out.size))
    have HLn := Lib.hid hla
    clear hba hla
    go_wp2_with fail
    refine tailL_mk HNv.out ?_
    refine mix_tail ?_; go_wp2_with fail
    refine (copyState_any f b _ _ n1 c1 n2 c2 _ (HF.out.below HBu.out) (HB.out.below HBu.out) (by omega) (by omega)).mono ?_
    rintro e11 vb ⟨ad, cd, ae, ce, rfl, hbb, hs1, hs2⟩
    have HLn := Lib.hid (HLn.out.below hbb)
    have HNv := Lib.hid (HNv.out.trans (hbb.mono HNv.out.size))
    have HSt := Lib.hid (And.intro hs1 hs2)
    clear hbb hs1 hs2
    go_wp2_with fail
    refine tailL_mk HNv.out ?_
    refine mix_tail ?_; go_wp2_with fail
    refine (energy_u y f b ac ad ae n cc n1 cd n2 ce e _ HLn.out HSt.out.1 HSt.out.2 (by omega) (by omega)).mono ?_
    rintro e12 vc ⟨rfl, hbc⟩
    rw [← HD.out.2.2.1, ← HD.out.2.2.2]
    have hbx : Below wc.heap.size wc vc := HNv.out.trans (hbc.mono HNv.out.size)
    have HNv := Lib.hid hbx
    clear hbc HLn HSt HBu
    go_wp2_with fail
    refine tailL_mk HNv.out ?_
    repeat (refine mix_head ?_; (show wpQuiet _ _ _ _ (_ :: _) _; go_big_quiet_step (fail)); refine wpQuiet_nil ?_)
    refine mix_nil ?_
    have hzx := hbx.size
    have q0 : vc.cell? ⟨w.heap.size, 0, none⟩ = some (.slice a n c) := by { rw [cellB hbx _ _ (by first | (simp; done) | (simp; omega) | omega)]; all_goals (first | assumption | go_simp) }; have q1 : vc.cell? ⟨w.heap.size, 1, none⟩ = some (.bool e) := by { rw [cellB hbx _ _ (by first | (simp; done) | (simp; omega) | omega)]; all_goals (first | assumption | go_simp) }; have q2 : vc.cell? ⟨w.heap.size + 1, 0, none⟩ = some (.slice a1 n1 c1) := by { rw [cellB hbx _ _ (by first | (simp; done) | (simp; omega) | omega)]; all_goals (first | assumption | go_simp) }; have q3 : vc.cell? ⟨w.heap.size + 1, 1, none⟩ = some (.slice a2 n2 c2) := by { rw [cellB hbx _ _ (by first | (simp; done) | (simp; omega) | omega)]; all_goals (first | assumption | go_simp) }; have x0 : vc.cell? ⟨X7, 0, none⟩ = some (.slice a3 n3 c3) := by { rw [cellB hbx _ _ (by first | (simp; done) | (simp; omega) | omega)]; all_goals (first | assumption | go_simp) }; have x1 : vc.cell? ⟨X7, 1, none⟩ = some (.slice a4 n4 c4) := by { rw [cellB hbx _ _ (by first | (simp; done) | (simp; omega) | omega)]; all_goals (first | assumption | go_simp) }; have y0 : vc.cell? ⟨X9, 0, none⟩ = some (.slice aF nF cF) := by { rw [cellB hbx _ _ (by first | (simp; done) | (simp; omega) | omega)]; all_goals (first | assumption | go_simp) }; have y1 : vc.cell? ⟨X9, 1, none⟩ = some (.slice aB nB cB) := by { rw [cellB hbx _ _ (by first | (simp; done) | (simp; omega) | omega)]; all_goals (first | assumption | go_simp) }; have l0 : w.heap.size < vc.heap.size := by { omega }; have l1 : w.heap.size + 1 < vc.heap.size := by { omega }; have l7 : X7 < vc.heap.size := by { omega }; have l9 : X9 < vc.heap.size := by { omega }
    have HBv := Lib.hid (HBv.out.trans (hbx.mono HBv.out.size))
    have HG := Lib.hid (And.intro (HG.out.1.below hbx) (HG.out.2.below hbx))
    have HR := Lib.hid (And.intro (HR.out.1.below hbx) (And.intro (HR.out.2.1.below hbx) (HR.out.2.2.below hbx)))
    clear q0c q1c q2c q3c x0c x1c y0c y1c l0c l1c l7c l9c hbx hzx HNv
    go_wp2_with fail
    refine (HLE.out _ HBv.out).mono ?_
    rintro e13 vd ⟨rfl, hbx⟩
    have hzx := hbx.size
    have q0c : vd.cell? ⟨w.heap.size, 0, none⟩ = some (.slice a n c) := by { rw [cellB hbx _ _ (by first | (simp; done) | (simp; omega) | omega)]; all_goals (first | assumption | go_simp) }; have q1c : vd.cell? ⟨w.heap.size, 1, none⟩ = some (.bool e) := by { rw [cellB hbx _ _ (by first | (simp; done) | (simp; omega) | omega)]; all_goals (first | assumption | go_simp) }; have q2c : vd.cell? ⟨w.heap.size + 1, 0, none⟩ = some (.slice a1 n1 c1) := by { rw [cellB hbx _ _ (by first | (simp; done) | (simp; omega) | omega)]; all_goals (first | assumption | go_simp) }; have q3c : vd.cell? ⟨w.heap.size + 1, 1, none⟩ = some (.slice a2 n2 c2) := by { rw [cellB hbx _ _ (by first | (simp; done) | (simp; omega) | omega)]; all_goals (first | assumption | go_simp) }; have x0c : vd.cell? ⟨X7, 0, none⟩ = some (.slice a3 n3 c3) := by { rw [cellB hbx _ _ (by first | (simp; done) | (simp; omega) | omega)]; all_goals (first | assumption | go_simp) }; have x1c : vd.cell? ⟨X7, 1, none⟩ = some (.slice a4 n4 c4) := by { rw [cellB hbx _ _ (by first | (simp; done) | (simp; omega) | omega)]; all_goals (first | assumption | go_simp) }; have y0c : vd.cell? ⟨X9, 0, none⟩ = some (.slice aF nF cF) := by { rw [cellB hbx _ _ (by first | (simp; done) | (simp; omega) | omega)]; all_goals (first | assumption | go_simp) }; have y1c : vd.cell? ⟨X9, 1, none⟩ = some (.slice aB nB cB) := by { rw [cellB hbx _ _ (by first | (simp; done) | (simp; omega) | omega)]; all_goals (first | assumption | go_simp) }; have l0c : w.heap.size < vd.heap.size := by { omega }; have l1c : w.heap.size + 1 < vd.heap.size := by { omega }; have l7c : X7 < vd.heap.size := by { omega }; have l9c : X9 < vd.heap.size := by { omega }
    have HBv := Lib.hid (HBv.out.trans (hbx.mono HBv.out.size))
    have HG := Lib.hid (And.intro (HG.out.1.below hbx) (HG.out.2.below hbx))
    have HR := Lib.hid (And.intro (HR.out.1.below hbx) (And.intro (HR.out.2.1.below hbx) (HR.out.2.2.below hbx)))
    clear q0 q1 q2 q3 x0 x1 y0 y1 l0 l1 l7 l9 hbx hzx
    go_wp2_with fail
    refine (copyLine_any y _ n c e _ (HY.out.below HBv.out) (by omega)).mono ?_
    rintro e14 ve ⟨ac, cc, rfl, hbx, hla⟩
    have HLn := Lib.hid hla
    have hzx := hbx.size
    have q0 : ve.cell? ⟨w.heap.size, 0, none⟩ = some (.slice a n c) := by { rw [cellB hbx _ _ (by first | (simp; done) | (simp; omega) | omega)]; all_goals (first | assumption | go_simp) }; have q1 : ve.cell? ⟨w.heap.size, 1, none⟩ = some (.bool e) := by { rw [cellB hbx _ _ (by first | (simp; done) | (simp; omega) | omega)]; all_goals (first | assumption | go_simp) }; have q2 : ve.cell? ⟨w.heap.size + 1, 0, none⟩ = some (.slice a1 n1 c1) := by { rw [cellB hbx _ _ (by first | (simp; done) | (simp; omega) | omega)]; all_goals (first | assumption | go_simp) }; have q3 : ve.cell? ⟨w.heap.size + 1, 1, none⟩ = some (.slice a2 n2 c2) := by { rw [cellB hbx _ _ (by first | (simp; done) | (simp; omega) | omega)]; all_goals (first | assumption | go_simp) }; have x0 : ve.cell? ⟨X7, 0, none⟩ = some (.slice a3 n3 c3) := by { rw [cellB hbx _ _ (by first | (simp; done) | (simp; omega) | omega)]; all_goals (first | assumption | go_simp) }; have x1 : ve.cell? ⟨X7, 1, none⟩ = some (.slice a4 n4 c4) := by { rw [cellB hbx _ _ (by first | (simp; done) | (simp; omega) | omega)]; all_goals (first | assumption | go_simp) }; have y0 : ve.cell? ⟨X9, 0, none⟩ = some (.slice aF nF cF) := by { rw [cellB hbx _ _ (by first | (simp; done) | (simp; omega) | omega)]; all_goals (first | assumption | go_simp) }; have y1 : ve.cell? ⟨X9, 1, none⟩ = some (.slice aB nB cB) := by { rw [cellB hbx _ _ (by first | (simp; done) | (simp; omega) | omega)]; all_goals (first | assumption | go_simp) }; have l0 : w.heap.size < ve.heap.size := by { omega }; have l1 : w.heap.size + 1 < ve.heap.size := by { omega }; have l7 : X7 < ve.heap.size := by { omega }; have l9 : X9 < ve.heap.size := by { omega }
    have HBv := Lib.hid (HBv.out.trans (hbx.mono HBv.out.size))
    have HG := Lib.hid (And.intro (HG.out.1.below hbx) (HG.out.2.below hbx))
    have HR := Lib.hid (And.intro (HR.out.1.below hbx) (And.intro (HR.out.2.1.below hbx) (HR.out.2.2.below hbx)))
    clear q0c q1c q2c q3c x0c x1c y0c y1c l0c l1c l7c l9c hbx hzx hla
    go_wp2_with fail
    refine (checkLine_any y _ n cc e _ HLn.out).mono ?_
    rintro e15 vf ⟨rfl, hbx⟩
    rw [← HD.out.1]
    have hzx := hbx.size
    have q0c : vf.cell? ⟨w.heap.size, 0, none⟩ = some (.slice a n c) := by { rw [cellB hbx _ _ (by first | (simp; done) | (simp; omega) | omega)]; all_goals (first | assumption | go_simp) }; have q1c : vf.cell? ⟨w.heap.size, 1, none⟩ = some (.bool e) := by { rw [cellB hbx _ _ (by first | (simp; done) | (simp; omega) | omega)]; all_goals (first | assumption | go_simp) }; have q2c : vf.cell? ⟨w.heap.size + 1, 0, none⟩ = some (.slice a1 n1 c1) := by { rw [cellB hbx _ _ (by first | (simp; done) | (simp; omega) | omega)]; all_goals (first | assumption | go_simp) }; have q3c : vf.cell? ⟨w.heap.size + 1, 1, none⟩ = some (.slice a2 n2 c2) := by { rw [cellB hbx _ _ (by first | (simp; done) | (simp; omega) | omega)]; all_goals (first | assumption | go_simp) }; have x0c : vf.cell? ⟨X7, 0, none⟩ = some (.slice a3 n3 c3) := by { rw [cellB hbx _ _ (by first | (simp; done) | (simp; omega) | omega)]; all_goals (first | assumption | go_simp) }; have x1c : vf.cell? ⟨X7, 1, none⟩ = some (.slice a4 n4 c4) := by { rw [cellB hbx _ _ (by first | (simp; done) | (simp; omega) | omega)]; all_goals (first | assumption | go_simp) }; have y0c : vf.cell? ⟨X9, 0, none⟩ = some (.slice aF nF cF) := by { rw [cellB hbx _ _ (by first | (simp; done) | (simp; omega) | omega)]; all_goals (first | assumption | go_simp) }; have y1c : vf.cell? ⟨X9, 1, none⟩ = some (.slice aB nB cB) := by { rw [cellB hbx _ _ (by first | (simp; done) | (simp; omega) | omega)]; all_goals (first | assumption | go_simp) }; have l0c : w.heap.size < vf.heap.size := by { omega }; have l1c : w.heap.size + 1 < vf.heap.size := by { omega }; have l7c : X7 < vf.heap.size := by { omega }; have l9c : X9 < vf.heap.size := by { omega }
    have HBv := Lib.hid (HBv.out.trans (hbx.mono HBv.out.size))
    have HG := Lib.hid (And.intro (HG.out.1.below hbx) (HG.out.2.below hbx))
    have HR := Lib.hid (And.intro (HR.out.1.below hbx) (And.intro (HR.out.2.1.below hbx) (HR.out.2.2.below hbx)))
    clear q0 q1 q2 q3 x0 x1 y0 y1 l0 l1 l7 l9 hbx hzx HLn
    have hdd : (d != d) = false := by simp
    by_cases hd0 : d = 0
    · have hd1 : (d != 0) = false := by simp [hd0]
      have hd2 : (d == 0) = true := by simp [hd0]
      subst hd0
      have hly : lineErr y = 0 := HD.out.1.symm
      have hBG : bgL y = List.replicate n 0 := by unfold bgL; rw [if_pos hly, HY.out.len]
      rw [hBG] at HG
      have hn10 : n ≤ 1000 := by omega
      have HBE := Lib.hid (fun v => rbegin_any a n c e v hn10)
      clear hBG hly
      go_wp2_with fail
      refine wp_region_laterM (B := vf.heap.size) [(true, 0), (true, 1), (true, 2), (true, 3), (true, 4), (true, 5), (true, 6), (true, 7), (true, 8), (false, 9), (true, 10), (true, 11), (true, 12), (true, 13), (true, 14), (true, 15), (true, 16), (true, 17), (true, 18), (true, 19), (true, 20), (true, 21), (false, 22), (false, 23), (true, 24), (true, 25), (true, 26), (true, 27)] (by kernel_rfl) (by kernel_rfl) ?_; simp only [opsOf, List.filterMap_cons, List.filterMap_nil, List.getElem?_toArray, List.getElem?_cons_zero, List.getElem?_cons_succ, Option.map_some]
      repeat (refine mix_head ?_; (show wpQuiet _ _ _ _ (_ :: _) _; go_big_quiet_step (fail)); refine wpQuiet_nil ?_)
      refine mix_tail ?_; go_wp2_with fail
      have HNv := Lib.hid (Below.refl vf.heap.size vf).drew
      refine tailL_mk HNv.out ?_
      repeat (refine mix_head ?_; (show wpQuiet _ _ _ _ (_ :: _) _; go_big_quiet_step (fail)); refine wpQuiet_nil ?_)
      refine mix_tail ?_; go_wp2_with fail
      refine (HBE.out vf.drew).mono ?_
      rintro e16 vg ⟨g1, g2, rfl, hbg, _, ho1, ho2⟩
      have HNv := Lib.hid (HNv.out.trans hbg)
      have HGB := Lib.hid (And.intro (SlR.of_owns ho1) (SlR.of_owns ho2))
      clear hbg ho1 ho2 HBE
      go_wp2_with fail
      refine tailL_mk HNv.out ?_
      refine mix_tail ?_; go_wp2_with fail
      refine (sameState_any (List.replicate n 0) (List.replicate n 0) (List.replicate n 0) (List.replicate n 0) a3 a4 _ _ n3 c3 n4 c4 n n n n vg (HG.out.1.below HNv.out) (HG.out.2.below HNv.out) HGB.out.1 HGB.out.2).mono ?_
      rintro e16 vk ⟨rfl, hbg⟩
      have hbx : Below vf.heap.size vf vk := HNv.out.trans (hbg.mono HNv.out.size)
      have HNv := Lib.hid hbx
      rw [show (decide (List.replicate n (0 : Int) = List.replicate n 0) && decide (List.replicate n (0 : Int) = List.replicate n 0)) = true by simp]
      go_wp2_with fail
      refine tailL_mk HNv.out ?_
      repeat (refine mix_head ?_; (show wpQuiet _ _ _ _ (_ :: _) _; go_big_quiet_step (fail)); refine wpQuiet_nil ?_)
      refine mix_nil ?_
      have hzx := hbx.size
      have q0 : vk.cell? ⟨w.heap.size, 0, none⟩ = some (.slice a n c) := by { rw [cellB hbx _ _ (by first | (simp; done) | (simp; omega) | omega)]; all_goals (first | assumption | go_simp) }; have q1 : vk.cell? ⟨w.heap.size, 1, none⟩ = some (.bool e) := by { rw [cellB hbx _ _ (by first | (simp; done) | (simp; omega) | omega)]; all_goals (first | assumption | go_simp) }; have q2 : vk.cell? ⟨w.heap.size + 1, 0, none⟩ = some (.slice a1 n1 c1) := by { rw [cellB hbx _ _ (by first | (simp; done) | (simp; omega) | omega)]; all_goals (first | assumption | go_simp) }; have q3 : vk.cell? ⟨w.heap.size + 1, 1, none⟩ = some (.slice a2 n2 c2) := by { rw [cellB hbx _ _ (by first | (simp; done) | (simp; omega) | omega)]; all_goals (first | assumption | go_simp) }; have x0 : vk.cell? ⟨X7, 0, none⟩ = some (.slice a3 n3 c3) := by { rw [cellB hbx _ _ (by first | (simp; done) | (simp; omega) | omega)]; all_goals (first | assumption | go_simp) }; have x1 : vk.cell? ⟨X7, 1, none⟩ = some (.slice a4 n4 c4) := by { rw [cellB hbx _ _ (by first | (simp; done) | (simp; omega) | omega)]; all_goals (first | assumption | go_simp) }; have y0 : vk.cell? ⟨X9, 0, none⟩ = some (.slice aF nF cF) := by { rw [cellB hbx _ _ (by first | (simp; done) | (simp; omega) | omega)]; all_goals (first | assumption | go_simp) }; have y1 : vk.cell? ⟨X9, 1, none⟩ = some (.slice aB nB cB) := by { rw [cellB hbx _ _ (by first | (simp; done) | (simp; omega) | omega)]; all_goals (first | assumption | go_simp) }; have l0 : w.heap.size < vk.heap.size := by { omega }; have l1 : w.heap.size + 1 < vk.heap.size := by { omega }; have l7 : X7 < vk.heap.size := by { omega }; have l9 : X9 < vk.heap.size := by { omega }
      have HBv := Lib.hid (HBv.out.trans (hbx.mono HBv.out.size))
      have HG := Lib.hid (And.intro (HG.out.1.below hbx) (HG.out.2.below hbx))
      have HR := Lib.hid (And.intro (HR.out.1.below hbx) (And.intro (HR.out.2.1.below hbx) (HR.out.2.2.below hbx)))
      clear hbg hbx hzx HNv q0c q1c q2c q3c x0c x1c y0c y1c l0c l1c l7c l9c HGB
      by_cases hT0 : T = 0
      · have ht1 : (T != 0) = false := by simp [hT0]
        have ht2 : (T == 0) = true := by simp [hT0]
        subst hT0
        have hst : stErr y f b = 0 := HD.out.2.2.1.symm
        have HST := Lib.hid (fun (v : World) (hv : Below w.heap.size w v) => rstep_u y f b s a a1 a2 n c n1 c1 n2 c2 e v (HY.out.below hv) (HF.out.below hv) (HB.out.below hv) hst)
        have HEN := Lib.hid (fun (v : World) (hv : Below w.heap.size w v) => renergy_ok y f b a a1 a2 n c n1 c1 n2 c2 e v (HY.out.below hv) (HF.out.below hv) (HB.out.below hv) hst)
        have hMM : M = enUpto y f b n := by rw [HD.out.2.2.2]; unfold enOf; rw [if_pos hst, HY.out.len]
        have HME := Lib.hid hMM
        have hee : (E == E) = true := by simp
        have hmm : (M == M) = true := by simp
        clear hst hMM
        go_wp2_with fail
        refine (HSE.out _ HBv.out).mono ?_
        rintro e17 vh ⟨rfl, hbx⟩
        have hzx := hbx.size
        have q0c : vh.cell? ⟨w.heap.size, 0, none⟩ = some (.slice a n c) := by { rw [cellB hbx _ _ (by first | (simp; done) | (simp; omega) | omega)]; all_goals (first | assumption | go_simp) }; have q1c : vh.cell? ⟨w.heap.size, 1, none⟩ = some (.bool e) := by { rw [cellB hbx _ _ (by first | (simp; done) | (simp; omega) | omega)]; all_goals (first | assumption | go_simp) }; have q2c : vh.cell? ⟨w.heap.size + 1, 0, none⟩ = some (.slice a1 n1 c1) := by { rw [cellB hbx _ _ (by first | (simp; done) | (simp; omega) | omega)]; all_goals (first | assumption | go_simp) }; have q3c : vh.cell? ⟨w.heap.size + 1, 1, none⟩ = some (.slice a2 n2 c2) := by { rw [cellB hbx _ _ (by first | (simp; done) | (simp; omega) | omega)]; all_goals (first | assumption | go_simp) }; have x0c : vh.cell? ⟨X7, 0, none⟩ = some (.slice a3 n3 c3) := by { rw [cellB hbx _ _ (by first | (simp; done) | (simp; omega) | omega)]; all_goals (first | assumption | go_simp) }; have x1c : vh.cell? ⟨X7, 1, none⟩ = some (.slice a4 n4 c4) := by { rw [cellB hbx _ _ (by first | (simp; done) | (simp; omega) | omega)]; all_goals (first | assumption | go_simp) }; have y0c : vh.cell? ⟨X9, 0, none⟩ = some (.slice aF nF cF) := by { rw [cellB hbx _ _ (by first | (simp; done) | (simp; omega) | omega)]; all_goals (first | assumption | go_simp) }; have y1c : vh.cell? ⟨X9, 1, none⟩ = some (.slice aB nB cB) := by { rw [cellB hbx _ _ (by first | (simp; done) | (simp; omega) | omega)]; all_goals (first | assumption | go_simp) }; have l0c : w.heap.size < vh.heap.size := by { omega }; have l1c : w.heap.size + 1 < vh.heap.size := by { omega }; have l7c : X7 < vh.heap.size := by { omega }; have l9c : X9 < vh.heap.size := by { omega }
        have HBv := Lib.hid (HBv.out.trans (hbx.mono HBv.out.size))
        have HG := Lib.hid (And.intro (HG.out.1.below hbx) (HG.out.2.below hbx))
        have HR := Lib.hid (And.intro (HR.out.1.below hbx) (And.intro (HR.out.2.1.below hbx) (HR.out.2.2.below hbx)))
        clear hbx hzx q0 q1 q2 q3 x0 x1 y0 y1 l0 l1 l7 l9
        go_wp2_with fail
        refine (HST.out _ HBv.out).mono ?_
        rintro e18 vi ⟨hbx, aF2, nF2, cF2, aB2, nB2, cB2, aV2, nV2, cV2, rfl, hw1, hw2, hw3⟩
        rw [← HD.out.2.1]
        have hzx := hbx.size
        have HW := Lib.hid (And.intro hw1 (And.intro hw2 hw3))
        have q0 : vi.cell? ⟨w.heap.size, 0, none⟩ = some (.slice a n c) := by { rw [cellB hbx _ _ (by first | (simp; done) | (simp; omega) | omega)]; all_goals (first | assumption | go_simp) }; have q1 : vi.cell? ⟨w.heap.size, 1, none⟩ = some (.bool e) := by { rw [cellB hbx _ _ (by first | (simp; done) | (simp; omega) | omega)]; all_goals (first | assumption | go_simp) }; have q2 : vi.cell? ⟨w.heap.size + 1, 0, none⟩ = some (.slice a1 n1 c1) := by { rw [cellB hbx _ _ (by first | (simp; done) | (simp; omega) | omega)]; all_goals (first | assumption | go_simp) }; have q3 : vi.cell? ⟨w.heap.size + 1, 1, none⟩ = some (.slice a2 n2 c2) := by { rw [cellB hbx _ _ (by first | (simp; done) | (simp; omega) | omega)]; all_goals (first | assumption | go_simp) }; have x0 : vi.cell? ⟨X7, 0, none⟩ = some (.slice a3 n3 c3) := by { rw [cellB hbx _ _ (by first | (simp; done) | (simp; omega) | omega)]; all_goals (first | assumption | go_simp) }; have x1 : vi.cell? ⟨X7, 1, none⟩ = some (.slice a4 n4 c4) := by { rw [cellB hbx _ _ (by first | (simp; done) | (simp; omega) | omega)]; all_goals (first | assumption | go_simp) }; have y0 : vi.cell? ⟨X9, 0, none⟩ = some (.slice aF nF cF) := by { rw [cellB hbx _ _ (by first | (simp; done) | (simp; omega) | omega)]; all_goals (first | assumption | go_simp) }; have y1 : vi.cell? ⟨X9, 1, none⟩ = some (.slice aB nB cB) := by { rw [cellB hbx _ _ (by first | (simp; done) | (simp; omega) | omega)]; all_goals (first | assumption | go_simp) }; have l0 : w.heap.size < vi.heap.size := by { omega }; have l1 : w.heap.size + 1 < vi.heap.size := by { omega }; have l7 : X7 < vi.heap.size := by { omega }; have l9 : X9 < vi.heap.size := by { omega }
        have HBv := Lib.hid (HBv.out.trans (hbx.mono HBv.out.size))
        have HG := Lib.hid (And.intro (HG.out.1.below hbx) (HG.out.2.below hbx))
        have HR := Lib.hid (And.intro (HR.out.1.below hbx) (And.intro (HR.out.2.1.below hbx) (HR.out.2.2.below hbx)))
        clear hbx hzx q0c q1c q2c q3c x0c x1c y0c y1c l0c l1c l7c l9c hw1 hw2 hw3 HST
        go_wp2_with fail
        generalize hW : vi.alloc (Obj.cells #[.slice aF2 nF2 cF2, .slice aB2 nB2 cB2] 26) = vj
        have hbx : Below vi.heap.size vi vj := by rw [← hW]; (repeat' (first | (with_reducible exact Below.refl _ _) | (with_reducible assumption) | (with_reducible refine Below.drewN ?_ _) | (with_reducible refine Below.alloc ?_ ?_ _) | (with_reducible refine Below.drew ?_) | (with_reducible refine Below.setCell ?_ ?_ _) | (with_reducible refine Below.step (by assumption) ?_ ?_) | (with_reducible exact And.left (by assumption)) | go_size))
        have hzx := hbx.size
        have q0c : vj.cell? ⟨w.heap.size, 0, none⟩ = some (.slice a n c) := by { rw [cellB hbx _ _ (by first | (simp; done) | (simp; omega) | omega)]; all_goals (first | assumption | go_simp) }; have q1c : vj.cell? ⟨w.heap.size, 1, none⟩ = some (.bool e) := by { rw [cellB hbx _ _ (by first | (simp; done) | (simp; omega) | omega)]; all_goals (first | assumption | go_simp) }; have q2c : vj.cell? ⟨w.heap.size + 1, 0, none⟩ = some (.slice a1 n1 c1) := by { rw [cellB hbx _ _ (by first | (simp; done) | (simp; omega) | omega)]; all_goals (first | assumption | go_simp) }; have q3c : vj.cell? ⟨w.heap.size + 1, 1, none⟩ = some (.slice a2 n2 c2) := by { rw [cellB hbx _ _ (by first | (simp; done) | (simp; omega) | omega)]; all_goals (first | assumption | go_simp) }; have x0c : vj.cell? ⟨X7, 0, none⟩ = some (.slice a3 n3 c3) := by { rw [cellB hbx _ _ (by first | (simp; done) | (simp; omega) | omega)]; all_goals (first | assumption | go_simp) }; have x1c : vj.cell? ⟨X7, 1, none⟩ = some (.slice a4 n4 c4) := by { rw [cellB hbx _ _ (by first | (simp; done) | (simp; omega) | omega)]; all_goals (first | assumption | go_simp) }; have y0c : vj.cell? ⟨X9, 0, none⟩ = some (.slice aF nF cF) := by { rw [cellB hbx _ _ (by first | (simp; done) | (simp; omega) | omega)]; all_goals (first | assumption | go_simp) }; have y1c : vj.cell? ⟨X9, 1, none⟩ = some (.slice aB nB cB) := by { rw [cellB hbx _ _ (by first | (simp; done) | (simp; omega) | omega)]; all_goals (first | assumption | go_simp) }; have l0c : w.heap.size < vj.heap.size := by { omega }; have l1c : w.heap.size + 1 < vj.heap.size := by { omega }; have l7c : X7 < vj.heap.size := by { omega }; have l9c : X9 < vj.heap.size := by { omega }
        have HBv := Lib.hid (HBv.out.trans (hbx.mono HBv.out.size))
        have HG := Lib.hid (And.intro (HG.out.1.below hbx) (HG.out.2.below hbx))
        have HR := Lib.hid (And.intro (HR.out.1.below hbx) (And.intro (HR.out.2.1.below hbx) (HR.out.2.2.below hbx)))
        have HW := Lib.hid (And.intro (HW.out.1.below hbx) (And.intro (HW.out.2.1.below hbx) (HW.out.2.2.below hbx)))
        clear hbx hzx q0 q1 q2 q3 x0 x1 y0 y1 l0 l1 l7 l9 hW
        refine (sameState_any (srL y f b s e (outF y f b s)) (srL y f b s e (outB y f b e)) (srL y f b s e (outF y f b s)) (srL y f b s e (outB y f b e)) aF aB aF2 aB2 nF cF nB cB nF2 cF2 nB2 cB2 vj HR.out.1 HR.out.2.1 HW.out.1 HW.out.2.1).mono ?_
        rintro e19 vk ⟨rfl, hbx⟩
        have hzx := hbx.size
        have q0 : vk.cell? ⟨w.heap.size, 0, none⟩ = some (.slice a n c) := by { rw [cellB hbx _ _ (by first | (simp; done) | (simp; omega) | omega)]; all_goals (first | assumption | go_simp) }; have q1 : vk.cell? ⟨w.heap.size, 1, none⟩ = some (.bool e) := by { rw [cellB hbx _ _ (by first | (simp; done) | (simp; omega) | omega)]; all_goals (first | assumption | go_simp) }; have q2 : vk.cell? ⟨w.heap.size + 1, 0, none⟩ = some (.slice a1 n1 c1) := by { rw [cellB hbx _ _ (by first | (simp; done) | (simp; omega) | omega)]; all_goals (first | assumption | go_simp) }; have q3 : vk.cell? ⟨w.heap.size + 1, 1, none⟩ = some (.slice a2 n2 c2) := by { rw [cellB hbx _ _ (by first | (simp; done) | (simp; omega) | omega)]; all_goals (first | assumption | go_simp) }; have x0 : vk.cell? ⟨X7, 0, none⟩ = some (.slice a3 n3 c3) := by { rw [cellB hbx _ _ (by first | (simp; done) | (simp; omega) | omega)]; all_goals (first | assumption | go_simp) }; have x1 : vk.cell? ⟨X7, 1, none⟩ = some (.slice a4 n4 c4) := by { rw [cellB hbx _ _ (by first | (simp; done) | (simp; omega) | omega)]; all_goals (first | assumption | go_simp) }; have y0 : vk.cell? ⟨X9, 0, none⟩ = some (.slice aF nF cF) := by { rw [cellB hbx _ _ (by first | (simp; done) | (simp; omega) | omega)]; all_goals (first | assumption | go_simp) }; have y1 : vk.cell? ⟨X9, 1, none⟩ = some (.slice aB nB cB) := by { rw [cellB hbx _ _ (by first | (simp; done) | (simp; omega) | omega)]; all_goals (first | assumption | go_simp) }; have l0 : w.heap.size < vk.heap.size := by { omega }; have l1 : w.heap.size + 1 < vk.heap.size := by { omega }; have l7 : X7 < vk.heap.size := by { omega }; have l9 : X9 < vk.heap.size := by { omega }
        have HBv := Lib.hid (HBv.out.trans (hbx.mono HBv.out.size))
        have HG := Lib.hid (And.intro (HG.out.1.below hbx) (HG.out.2.below hbx))
        have HR := Lib.hid (And.intro (HR.out.1.below hbx) (And.intro (HR.out.2.1.below hbx) (HR.out.2.2.below hbx)))
        have HW := Lib.hid (And.intro (HW.out.1.below hbx) (And.intro (HW.out.2.1.below hbx) (HW.out.2.2.below hbx)))
        clear hbx hzx q0c q1c q2c q3c x0c x1c y0c y1c l0c l1c l7c l9c
        rw [decide_eq_true rfl, decide_eq_true rfl, Bool.and_true]
        go_wp2_with fail
        refine (ints_any (srL y f b s e (outV y f b s e)) (srL y f b s e (outV y f b s e)) aV aV2 nV cV nV2 cV2 vk HR.out.2.2 HW.out.2.2).mono ?_
        rintro e20 vl ⟨rfl, m20, rfl⟩
        have hbx : Below vk.heap.size vk (vk.drewN m20) := (Below.refl _ _).drewN m20
        have HBv := Lib.hid (HBv.out.trans (hbx.mono HBv.out.size))
        clear hbx
        rw [decide_eq_true rfl]
        go_wp2_with fail
        refine (HEN.out _ HBv.out).mono ?_
        rintro e21 vm ⟨rfl, hbx⟩
        have HBv := Lib.hid (HBv.out.trans (hbx.mono HBv.out.size))
        clear hbx
        rw [← HME.out]
        go_wp2_with fail
        go_ret
        exact ⟨rfl, HBv.out⟩
      · have ht1 : (T != 0) = true := by simpa using hT0
        have ht3 : (T == T) = true := by simp
        have hst : stErr y f b ≠ 0 := by rw [← HD.out.2.2.1]; exact hT0
        have hSE : firstErr [stErr y f b, unl (wi s (-1000000) 1000000) 2] = T := by rw [HD.out.2.2.1]; simp [firstErr, hst]
        have hEE : srE y f b s e = T := by unfold srE; rw [if_neg (by rw [hSE]; exact hT0), hSE]
        have hEd : E = T := by rw [HD.out.2.1, hEE]
        have hMz : M = 0 := by rw [HD.out.2.2.2]; unfold enOf; rw [if_neg hst]
        have hZ : ∀ l, srL y f b s e l = [] := fun l => by unfold srL; rw [if_neg (by rw [hEE]; exact hT0)]
        rw [hZ, hZ, hZ] at HR
        subst hEd hMz
        clear hst hSE hEE hZ HD
        have hnV : nV = 0 := by have := HR.out.2.2.len; simpa using this.symm
        subst hnV
        go_wp2_with fail
        refine (HSE.out _ HBv.out).mono ?_
        rintro e17 vh ⟨rfl, hbx⟩
        have hzx := hbx.size
        have q0c : vh.cell? ⟨w.heap.size, 0, none⟩ = some (.slice a n c) := by { rw [cellB hbx _ _ (by first | (simp; done) | (simp; omega) | omega)]; all_goals (first | assumption | go_simp) }; have q1c : vh.cell? ⟨w.heap.size, 1, none⟩ = some (.bool e) := by { rw [cellB hbx _ _ (by first | (simp; done) | (simp; omega) | omega)]; all_goals (first | assumption | go_simp) }; have q2c : vh.cell? ⟨w.heap.size + 1, 0, none⟩ = some (.slice a1 n1 c1) := by { rw [cellB hbx _ _ (by first | (simp; done) | (simp; omega) | omega)]; all_goals (first | assumption | go_simp) }; have q3c : vh.cell? ⟨w.heap.size + 1, 1, none⟩ = some (.slice a2 n2 c2) := by { rw [cellB hbx _ _ (by first | (simp; done) | (simp; omega) | omega)]; all_goals (first | assumption | go_simp) }; have x0c : vh.cell? ⟨X7, 0, none⟩ = some (.slice a3 n3 c3) := by { rw [cellB hbx _ _ (by first | (simp; done) | (simp; omega) | omega)]; all_goals (first | assumption | go_simp) }; have x1c : vh.cell? ⟨X7, 1, none⟩ = some (.slice a4 n4 c4) := by { rw [cellB hbx _ _ (by first | (simp; done) | (simp; omega) | omega)]; all_goals (first | assumption | go_simp) }; have y0c : vh.cell? ⟨X9, 0, none⟩ = some (.slice aF nF cF) := by { rw [cellB hbx _ _ (by first | (simp; done) | (simp; omega) | omega)]; all_goals (first | assumption | go_simp) }; have y1c : vh.cell? ⟨X9, 1, none⟩ = some (.slice aB nB cB) := by { rw [cellB hbx _ _ (by first | (simp; done) | (simp; omega) | omega)]; all_goals (first | assumption | go_simp) }; have l0c : w.heap.size < vh.heap.size := by { omega }; have l1c : w.heap.size + 1 < vh.heap.size := by { omega }; have l7c : X7 < vh.heap.size := by { omega }; have l9c : X9 < vh.heap.size := by { omega }
        have HBv := Lib.hid (HBv.out.trans (hbx.mono HBv.out.size))
        have HG := Lib.hid (And.intro (HG.out.1.below hbx) (HG.out.2.below hbx))
        have HR := Lib.hid (And.intro (HR.out.1.below hbx) (And.intro (HR.out.2.1.below hbx) (HR.out.2.2.below hbx)))
        clear hbx hzx q0 q1 q2 q3 x0 x1 y0 y1 l0 l1 l7 l9
        go_wp2_with fail
        refine (sameState_any [] [] [] [] aF aB none none nF cF nB cB 0 0 0 0 vh HR.out.1 HR.out.2.1 (IntsR.nil _ _) (IntsR.nil _ _)).mono ?_
        rintro e18 vi ⟨rfl, hbx⟩
        have HBv := Lib.hid (HBv.out.trans (hbx.mono HBv.out.size))
        rw [show (decide (([] : List Int) = []) && decide (([] : List Int) = [])) = true from rfl]
        clear hbx
        go_wp2_with fail
        go_ret
        exact ⟨rfl, HBv.out⟩
    · have hd1 : (d != 0) = true := by simpa using hd0
      have hd2 : (d == 0) = false := by simpa using hd0
      have hdd2 : (d == d) = true := by simp
      have hly : lineErr y ≠ 0 := by rw [← HD.out.1]; exact hd0
      have hTd : T = d := by rw [HD.out.2.2.1, stErr_line hly, HD.out.1]
      have hSE : firstErr [stErr y f b, unl (wi s (-1000000) 1000000) 2] = d := by rw [stErr_line hly, ← HD.out.1]; simp [firstErr, hd0]
      have hEE : srE y f b s e = d := by unfold srE; rw [if_neg (by rw [hSE]; exact hd0), hSE]
      have hEd : E = d := by rw [HD.out.2.1, hEE]
      have hMz : M = 0 := by rw [HD.out.2.2.2]; unfold enOf; rw [if_neg (by rw [stErr_line hly]; exact hly)]
      have hZ : ∀ l, srL y f b s e l = [] := fun l => by unfold srL; rw [if_neg (by rw [hEE]; exact hd0)]
      have hBG : bgL y = [] := by unfold bgL; rw [if_neg hly]
      rw [hZ, hZ, hZ] at HR
      rw [hBG] at HG
      subst hTd hEd hMz
      clear hly hSE hEE hZ hBG HD
      go_wp2_with fail
      refine wp_region_laterM (B := vf.heap.size) [(true, 0), (true, 1), (true, 2), (true, 3), (true, 4), (true, 5), (true, 6), (true, 7), (true, 8), (false, 9), (true, 10), (true, 11), (true, 12), (true, 13), (true, 14), (true, 15), (true, 16), (true, 17), (true, 18), (true, 19), (true, 20), (true, 21), (false, 22), (false, 23), (true, 24), (true, 25), (true, 26), (true, 27)] (by kernel_rfl) (by kernel_rfl) ?_; simp only [opsOf, List.filterMap_cons, List.filterMap_nil, List.getElem?_toArray, List.getElem?_cons_zero, List.getElem?_cons_succ, Option.map_some]
      repeat (refine mix_head ?_; (show wpQuiet _ _ _ _ (_ :: _) _; go_big_quiet_step (fail)); refine wpQuiet_nil ?_)
      refine mix_tail ?_; go_wp2_with fail
      refine (sameState_any [] [] [] [] a3 a4 none none n3 c3 n4 c4 0 0 0 0 vf.drew HG.out.1 HG.out.2 (IntsR.nil _ _) (IntsR.nil _ _)).mono ?_
      rintro e16 vg ⟨rfl, hbg⟩
      have hbx : Below vf.heap.size vf vg := (Below.refl vf.heap.size vf).drew.trans hbg
      have HNv := Lib.hid hbx
      rw [show (decide (([] : List Int) = []) && decide (([] : List Int) = [])) = true from rfl]
      go_wp2_with fail
      refine tailL_mk HNv.out ?_
      repeat (refine mix_head ?_; (show wpQuiet _ _ _ _ (_ :: _) _; go_big_quiet_step (fail)); refine wpQuiet_nil ?_)
      refine mix_tail ?_; go_wp2_with fail
      refine tailL_mk HNv.out ?_
      refine mix_tail ?_; go_wp2_with fail
      refine tailL_mk HNv.out ?_
      repeat (refine mix_head ?_; (show wpQuiet _ _ _ _ (_ :: _) _; go_big_quiet_step (fail)); refine wpQuiet_nil ?_)
      refine mix_nil ?_
      have hzx := hbx.size
      have q0 : vg.cell? ⟨w.heap.size, 0, none⟩ = some (.slice a n c) := by { rw [cellB hbx _ _ (by first | (simp; done) | (simp; omega) | omega)]; all_goals (first | assumption | go_simp) }; have q1 : vg.cell? ⟨w.heap.size, 1, none⟩ = some (.bool e) := by { rw [cellB hbx _ _ (by first | (simp; done) | (simp; omega) | omega)]; all_goals (first | assumption | go_simp) }; have q2 : vg.cell? ⟨w.heap.size + 1, 0, none⟩ = some (.slice a1 n1 c1) := by { rw [cellB hbx _ _ (by first | (simp; done) | (simp; omega) | omega)]; all_goals (first | assumption | go_simp) }; have q3 : vg.cell? ⟨w.heap.size + 1, 1, none⟩ = some (.slice a2 n2 c2) := by { rw [cellB hbx _ _ (by first | (simp; done) | (simp; omega) | omega)]; all_goals (first | assumption | go_simp) }; have x0 : vg.cell? ⟨X7, 0, none⟩ = some (.slice a3 n3 c3) := by { rw [cellB hbx _ _ (by first | (simp; done) | (simp; omega) | omega)]; all_goals (first | assumption | go_simp) }; have x1 : vg.cell? ⟨X7, 1, none⟩ = some (.slice a4 n4 c4) := by { rw [cellB hbx _ _ (by first | (simp; done) | (simp; omega) | omega)]; all_goals (first | assumption | go_simp) }; have y0 : vg.cell? ⟨X9, 0, none⟩ = some (.slice aF nF cF) := by { rw [cellB hbx _ _ (by first | (simp; done) | (simp; omega) | omega)]; all_goals (first | assumption | go_simp) }; have y1 : vg.cell? ⟨X9, 1, none⟩ = some (.slice aB nB cB) := by { rw [cellB hbx _ _ (by first | (simp; done) | (simp; omega) | omega)]; all_goals (first | assumption | go_simp) }; have l0 : w.heap.size < vg.heap.size := by { omega }; have l1 : w.heap.size + 1 < vg.heap.size := by { omega }; have l7 : X7 < vg.heap.size := by { omega }; have l9 : X9 < vg.heap.size := by { omega }
      have HBv := Lib.hid (HBv.out.trans (hbx.mono HBv.out.size))
      have HG := Lib.hid (And.intro (HG.out.1.below hbx) (HG.out.2.below hbx))
      have HR := Lib.hid (And.intro (HR.out.1.below hbx) (And.intro (HR.out.2.1.below hbx) (HR.out.2.2.below hbx)))
      clear hbg hbx hzx HNv q0c q1c q2c q3c x0c x1c y0c y1c l0c l1c l7c l9c
      have hnV : nV = 0 := by have := HR.out.2.2.len; simpa using this.symm
      subst hnV
      go_wp2_with fail
      refine (HSE.out _ HBv.out).mono ?_
      rintro e17 vh ⟨rfl, hbx⟩
      have hzx := hbx.size
      have q0c : vh.cell? ⟨w.heap.size, 0, none⟩ = some (.slice a n c) := by { rw [cellB hbx _ _ (by first | (simp; done) | (simp; omega) | omega)]; all_goals (first | assumption | go_simp) }; have q1c : vh.cell? ⟨w.heap.size, 1, none⟩ = some (.bool e) := by { rw [cellB hbx _ _ (by first | (simp; done) | (simp; omega) | omega)]; all_goals (first | assumption | go_simp) }; have q2c : vh.cell? ⟨w.heap.size + 1, 0, none⟩ = some (.slice a1 n1 c1) := by { rw [cellB hbx _ _ (by first | (simp; done) | (simp; omega) | omega)]; all_goals (first | assumption | go_simp) }; have q3c : vh.cell? ⟨w.heap.size + 1, 1, none⟩ = some (.slice a2 n2 c2) := by { rw [cellB hbx _ _ (by first | (simp; done) | (simp; omega) | omega)]; all_goals (first | assumption | go_simp) }; have x0c : vh.cell? ⟨X7, 0, none⟩ = some (.slice a3 n3 c3) := by { rw [cellB hbx _ _ (by first | (simp; done) | (simp; omega) | omega)]; all_goals (first | assumption | go_simp) }; have x1c : vh.cell? ⟨X7, 1, none⟩ = some (.slice a4 n4 c4) := by { rw [cellB hbx _ _ (by first | (simp; done) | (simp; omega) | omega)]; all_goals (first | assumption | go_simp) }; have y0c : vh.cell? ⟨X9, 0, none⟩ = some (.slice aF nF cF) := by { rw [cellB hbx _ _ (by first | (simp; done) | (simp; omega) | omega)]; all_goals (first | assumption | go_simp) }; have y1c : vh.cell? ⟨X9, 1, none⟩ = some (.slice aB nB cB) := by { rw [cellB hbx _ _ (by first | (simp; done) | (simp; omega) | omega)]; all_goals (first | assumption | go_simp) }; have l0c : w.heap.size < vh.heap.size := by { omega }; have l1c : w.heap.size + 1 < vh.heap.size := by { omega }; have l7c : X7 < vh.heap.size := by { omega }; have l9c : X9 < vh.heap.size := by { omega }
      have HBv := Lib.hid (HBv.out.trans (hbx.mono HBv.out.size))
      have HG := Lib.hid (And.intro (HG.out.1.below hbx) (HG.out.2.below hbx))
      have HR := Lib.hid (And.intro (HR.out.1.below hbx) (And.intro (HR.out.2.1.below hbx) (HR.out.2.2.below hbx)))
      clear hbx hzx q0 q1 q2 q3 x0 x1 y0 y1 l0 l1 l7 l9
      go_wp2_with fail
      refine (sameState_any [] [] [] [] aF aB none none nF cF nB cB 0 0 0 0 vh HR.out.1 HR.out.2.1 (IntsR.nil _ _) (IntsR.nil _ _)).mono ?_
      rintro e18 vi ⟨rfl, hbx⟩
      have HBv := Lib.hid (HBv.out.trans (hbx.mono HBv.out.size))
      rw [show (decide (([] : List Int) = []) && decide (([] : List Int) = [])) = true from rfl]
      clear hbx
      go_wp2_with fail
      go_ret
      exact ⟨rfl, HBv.out⟩
end Go.Proofs.Ytiellefbndlkkaa
