import Derived.Test.YtdjinmieogpgcaaGreatMTMacR2
/- Machines: the program's CheckMachine, openMachine, open. -/
namespace Go.Proofs.YtdjinmieogpgcaaGreat
open Go.RowKit
set_option linter.unusedVariables false
set_option linter.unusedSimpArgs false
set_option maxHeartbeats 4000000 in
set_option maxRecDepth 100000 in
theorem checkMachine_any (m : Mac) (ab ag : Option Addr) (nb cb ng cg : Nat) (w : World) (hb : BrR w ab nb m.br) (hg : GrR w ag ng m.gs) :
    Calls Tryz.prog 109 #[.agg #[.slice ab nb cb, .int .i64 m.st, .slice ag ng cg]] w fun e' w' => e' = .returned (.tuple #[.int .i64 (macE m).1, .int .i64 (macE m).2]) ∧ Below w.heap.size w w' := by
 have hnb := hb.small
 have hng := hg.small
 have HBR := Lib.hid (fun (W : World) (hbw : Below w.heap.size w W) => hb.below hbw)
 have HGR := Lib.hid (fun (W : World) (hbw : Below w.heap.size w W) => hg.below hbw)
 have HLB := Lib.hid hb.len
 have HLG := Lib.hid hg.len
 clear hb hg
 obtain ⟨br, st, gs⟩ := m
 simp only at HBR HGR HLB HLG ⊢
 obtain ⟨E, hE⟩ : ∃ E, E = macE ⟨br, st, gs⟩ := ⟨_, rfl⟩
 rw [← hE]
 obtain ⟨E1, E2⟩ := E
 have HE := Lib.hid hE
 clear hE
 simp only
 have HU := Lib.hid (fun (b : Bool) (e : Int) w' => t_unless_any b e w')
 have HW := Lib.hid (fun (n lo hi : Int) w' => t_within_any n lo hi w')
 obtain ⟨H, hH'⟩ : ∃ H, H = macH nb := ⟨_, rfl⟩
 have HH := Lib.hid (show H = firstErr [unl (decide (0 < nb)) 10, unl (decide ((nb : Int) ≤ 6)) 8] from hH')
 have HHB := Lib.hid (show macH br.length = H by rw [HLB.out]; exact hH'.symm)
 clear hH'
 go_enter Tryz.func109, Tryz.ntmps109
 go_wp2_with fail
 obtain ⟨w1, hW⟩ : ∃ w1, w1 = w.alloc (Obj.cells #[.slice ab nb cb, .int .i64 st, .slice ag ng cg] 45) := ⟨_, rfl⟩
 rw [← hW]
 have hb1 : Below w.heap.size w w1 := by rw [hW]; (first|exact bwg|go_size)
 have kM : w1.heap[w.heap.size]? = some (.cells #[.slice ab nb cb, .int .i64 st, .slice ag ng cg] 45) := by rw [hW]; exact heap_alloc_new _ _
 have HB1 := Lib.hid hb1
 clear hW hb1
 have HB := Lib.hid (Below.refl w1.heap.size w1)
 have km := blk_below kM HB.out
 have q0 : w1.cell? ⟨w.heap.size, 0, none⟩ = some (.slice ab nb cb) := blk_cell km (i := 0) rfl
 have q1 : w1.cell? ⟨w.heap.size, 1, none⟩ = some (.int .i64 st) := blk_cell km (i := 1) rfl
 have q2 : w1.cell? ⟨w.heap.size, 2, none⟩ = some (.slice ag ng cg) := blk_cell km (i := 2) rfl
 have lr0 := blk_lt km
 clear km
 refine later_of_eq 10 (by kernel_rfl) (by kernel_rfl) ?_; simp only [List.take_succ_cons, List.take_zero, List.drop_succ_cons, List.drop_zero]; repeat go_big_quiet_step (with_reducible exact calls_later_same (HU.out _ _ _))
 refine wpQuiet_nil ?_; intro w5 hb5
 replace HB := bwt HB hb5
 clear hb5
 clear q0 q1 q2 lr0
 have km := blk_below kM HB.out
 have q0 : w5.cell? ⟨w.heap.size, 0, none⟩ = some (.slice ab nb cb) := blk_cell km (i := 0) rfl
 have q1 : w5.cell? ⟨w.heap.size, 1, none⟩ = some (.int .i64 st) := blk_cell km (i := 1) rfl
 have q2 : w5.cell? ⟨w.heap.size, 2, none⟩ = some (.slice ag ng cg) := blk_cell km (i := 2) rfl
 have lr0 := blk_lt km
 clear km
 go_wp2_with fail
 refine (t_first2 _ _ _ _ _ _ (by rfl) (by simp)).mono ?_
 rintro e8 w8 ⟨rfl, hw8⟩
 have hb8 : Below w5.heap.size w5 w8 := by rw [← hw8]; (first|exact bwg|go_size)
 clear hw8
 replace HB := bwt HB hb8
 clear hb8
 clear q0 q1 q2 lr0
 have km := blk_below kM HB.out
 have q0 : w8.cell? ⟨w.heap.size, 0, none⟩ = some (.slice ab nb cb) := blk_cell km (i := 0) rfl
 have q1 : w8.cell? ⟨w.heap.size, 1, none⟩ = some (.int .i64 st) := blk_cell km (i := 1) rfl
 have q2 : w8.cell? ⟨w.heap.size, 2, none⟩ = some (.slice ag ng cg) := blk_cell km (i := 2) rfl
 have lr0 := blk_lt km
 clear km
 first | rw [← HH.out] | (have := HH.out; simp at this; rw [← this])
 by_cases h0 : H = 0
 ·subst h0
  obtain ⟨hn0, hn6⟩ := macH_zero.1 HHB.out
  rw [HLB.out] at hn0 hn6
  clear HH
  go_wp2_with fail
  have HB8 := Lib.hid HB.out
  clear q0 q1 q2 lr0
  go_loopw [30] (fun i wr => ∃ k : Nat, i = .int .i64 (k : Int) ∧ k ≤ nb ∧ Hid (firstAt (fun k => brnE (bAt br k)) (nb - k) k = firstAt (fun k => brnE (bAt br k)) br.length 0) ∧ Hid (Below w8.heap.size w8 wr)) (fun i _ => nb - (intOf i).toNat)
  case atStart => exact ⟨0, rfl, Nat.zero_le _, Lib.hid (by rw [HLB.out]; rfl), Lib.hid (Below.refl _ _)⟩
  case round =>
   clear HB
   obtain ⟨k, rfl, hk, hF, hB8⟩ := hrel
   have HB := bwt HB8 hB8.out
   have k0 : (0 : Int) ≤ (k : Int) := by omega
   by_cases hlt : k < nb
   ·have k1 : (k : Int) < (nb : Int) := by omega
    obtain ⟨bb, ob, rfl, hbb, hcc⟩ := (HBR.out _ (HB1.out.trans (HB.out.mono HB1.out.size))).addr (by omega)
    have km := blk_below kM HB.out
    have q0 : wr.cell? ⟨w.heap.size, 0, none⟩ = some (.slice (some ⟨bb, ob, none⟩) nb cb) := blk_cell km (i := 0) rfl
    have q1 : wr.cell? ⟨w.heap.size, 1, none⟩ = some (.int .i64 st) := blk_cell km (i := 1) rfl
    have q2 : wr.cell? ⟨w.heap.size, 2, none⟩ = some (.slice ag ng cg) := blk_cell km (i := 2) rfl
    have lr0 := blk_lt km
    clear km
    obtain ⟨c0, c1⟩ := hcc k hlt
    have hF' := hF.out
    rw [firstAt_step hlt] at hF'
    obtain ⟨⟨t, r⟩, hx⟩ : ∃ x, x = bAt br k := ⟨_, rfl⟩
    rw [← hx] at c0 c1 hF'
    simp only at c0 c1
    have W1 := Lib.hid (fun w' => HW.out t 0 1 w')
    have W2 := Lib.hid (fun w' => HW.out r 0 10 w')
    rw [show brnE ⟨t, r⟩ = unl (wi t 0 1 && wi r 0 10) 2 from rfl] at hF'
    clear hcc hx
    generalize wi t 0 1 = b3 at *
    generalize wi r 0 10 = b4 at *
    have HF := Lib.hid hF'
    clear hF' hF
    go_wp2_with fail
    obtain ⟨X6, hX6⟩ : ∃ X, X = wr.heap.size := ⟨_, rfl⟩
    rw [← hX6]
    obtain ⟨wa, hW⟩ : ∃ wa, wa = wr.alloc (Obj.cells #[.int .i64 t, .int .i64 r] 126) := ⟨_, rfl⟩
    rw [← hW]
    have hba : Below wr.heap.size wr wa := by rw [hW]; (first|exact bwg|go_size)
    have k6 : wa.heap[X6]? = some (.cells #[.int .i64 t, .int .i64 r] 126) := by rw [hW, hX6]; exact heap_alloc_new _ _
    replace hB8 := bwt hB8 hba
    clear hW hX6 c0 c1 hbb
    replace HB := bwt HB hba
    clear hba
    clear q0 q1 q2 lr0
    have km := blk_below kM HB.out
    have q0 : wa.cell? ⟨w.heap.size, 0, none⟩ = some (.slice (some ⟨bb, ob, none⟩) nb cb) := blk_cell km (i := 0) rfl
    have q1 : wa.cell? ⟨w.heap.size, 1, none⟩ = some (.int .i64 st) := blk_cell km (i := 1) rfl
    have q2 : wa.cell? ⟨w.heap.size, 2, none⟩ = some (.slice ag ng cg) := blk_cell km (i := 2) rfl
    have lr0 := blk_lt km
    clear km
    obtain ⟨g0, g1, l6⟩ := blkc2 k6
    clear k6
    go_wp2_with fail
    refine (W1.out _).mono ?_
    rintro e5 w5 ⟨rfl, rfl⟩
    cases b3
    ·have hH : macE ⟨br, st, gs⟩ = ((k : Int), 2) := by
       have e := HF.out
       rw [show unl (false && b4) 2 = 2 from rfl, if_pos (by decide)] at e
       rw [macE_b HHB.out (by show (firstAt (fun k => brnE (bAt br k)) br.length 0).2 ≠ 0; rw [← e]; exact (show (2 : Int) ≠ 0 by decide))]
       exact e.symm
     go_wp2
     go_ret2
     exact ⟨by have := HE.out.trans hH; simp only [Prod.mk.injEq] at this; rw [this.1, this.2]; rfl, HB1.out.trans (HB.out.mono HB1.out.size)⟩
    ·go_wp2_with fail
     refine (W2.out _).mono ?_
     rintro e5 w5 ⟨rfl, rfl⟩
     cases b4
     ·have hH : macE ⟨br, st, gs⟩ = ((k : Int), 2) := by
        have e := HF.out
        rw [show unl (true && false) 2 = 2 from rfl, if_pos (by decide)] at e
        rw [macE_b HHB.out (by show (firstAt (fun k => brnE (bAt br k)) br.length 0).2 ≠ 0; rw [← e]; exact (show (2 : Int) ≠ 0 by decide))]
        exact e.symm
      go_wp2
      go_ret2
      exact ⟨by have := HE.out.trans hH; simp only [Prod.mk.injEq] at this; rw [this.1, this.2]; rfl, HB1.out.trans (HB.out.mono HB1.out.size)⟩
     ·go_wp2_with fail
      go_roundw
      case rel => exact ⟨k + 1, by go_num, by omega, Lib.hid (by have e := HF.out; rw [show unl (true && true) 2 = 0 from rfl, if_neg (by decide)] at e; exact e), hB8⟩
      case measure => simp [intOf]; omega
   ·have HF0 := Lib.hid (show (firstAt (fun k => brnE (bAt br k)) br.length 0).2 = 0 by rw [← hF.out, firstAt_end (by omega)])
    clear hF
    have km := blk_below kM HB.out
    have q0 : wr.cell? ⟨w.heap.size, 0, none⟩ = some (.slice ab nb cb) := blk_cell km (i := 0) rfl
    have q1 : wr.cell? ⟨w.heap.size, 1, none⟩ = some (.int .i64 st) := blk_cell km (i := 1) rfl
    have q2 : wr.cell? ⟨w.heap.size, 2, none⟩ = some (.slice ag ng cg) := blk_cell km (i := 2) rfl
    have lr0 := blk_lt km
    clear km
    obtain ⟨K, hK⟩ : ∃ K, K = macK ⟨br, st, gs⟩ := ⟨_, rfl⟩
    have HKE := Lib.hid (show K = firstErr [unl (isS nb st) 2, unl (decide ((ng : Int) ≤ 30)) 8] by
     rw [hK]; unfold macK staE; simp only [HLB.out, HLG.out])
    have HKK := Lib.hid hK
    have HS := Lib.hid (fun (W : World) (hbw : Below wr.heap.size wr W) (n : Int) => cm1_any n w.heap.size nb cb ab W (by rw [cellB hbw _ _ lr0]; exact q0) (Nat.lt_of_lt_of_le lr0 hbw.size) (by omega))
    clear hK
    go_wp2_with fail
    refine later_of_eq 10 (by kernel_rfl) (by kernel_rfl) ?_; simp only [List.take_succ_cons, List.take_zero, List.drop_succ_cons, List.drop_zero]; repeat go_big_quiet_step (first | with_reducible exact calls_later_same (HU.out _ _ _) | with_reducible exact calls_later_same (HS.out _ (Later.below _) _))
    refine wpQuiet_nil ?_; intro w9 hb9
    replace HB := bwt HB hb9
    clear hb9
    clear q0 q1 q2 lr0
    have km := blk_below kM HB.out
    have q0 : w9.cell? ⟨w.heap.size, 0, none⟩ = some (.slice ab nb cb) := blk_cell km (i := 0) rfl
    have q1 : w9.cell? ⟨w.heap.size, 1, none⟩ = some (.int .i64 st) := blk_cell km (i := 1) rfl
    have q2 : w9.cell? ⟨w.heap.size, 2, none⟩ = some (.slice ag ng cg) := blk_cell km (i := 2) rfl
    have lr0 := blk_lt km
    clear km
    clear HS
    go_wp2_with fail
    refine (t_first2 _ _ _ _ _ _ (by rfl) (by simp)).mono ?_
    rintro e10 wq ⟨rfl, hwq⟩
    have hbq : Below w9.heap.size w9 wq := by rw [← hwq]; (first|exact bwg|go_size)
    clear hwq
    replace HB := bwt HB hbq
    clear hbq
    clear q0 q1 q2 lr0
    have km := blk_below kM HB.out
    have q0 : wq.cell? ⟨w.heap.size, 0, none⟩ = some (.slice ab nb cb) := blk_cell km (i := 0) rfl
    have q1 : wq.cell? ⟨w.heap.size, 1, none⟩ = some (.int .i64 st) := blk_cell km (i := 1) rfl
    have q2 : wq.cell? ⟨w.heap.size, 2, none⟩ = some (.slice ag ng cg) := blk_cell km (i := 2) rfl
    have lr0 := blk_lt km
    clear km
    first | rw [← HKE.out] | (have := HKE.out; simp at this; rw [← this])
    clear HKE
    by_cases h3 : K = 0
    ·subst h3
     have HG := Lib.hid (show macE ⟨br, st, gs⟩ = firstAt (fun k => grdE nb (gAt gs k)) ng 0 by
      have e := macE_g (m := ⟨br, st, gs⟩) HHB.out HF0.out HKK.out.symm
      simp only [HLB.out, HLG.out] at e
      exact e)
     have hg30 : ng ≤ 30 := by
      have e := HKK.out.symm
      unfold macK at e
      rw [firstErr_cons, firstErr_cons, unl_eq_zero (by decide), decide_eq_true_eq] at e
      have := e.2.1
      simp only [HLG.out] at this
      omega
     clear HF0 HHB HKK
     go_wp2_with fail
     have HBq := Lib.hid HB.out
     clear q0 q1 q2 lr0
     go_loopw [66] (fun i wr => ∃ k : Nat, i = .int .i64 (k : Int) ∧ k ≤ ng ∧ Hid (firstAt (fun k => grdE nb (gAt gs k)) (ng - k) k = macE ⟨br, st, gs⟩) ∧ Hid (Below wq.heap.size wq wr)) (fun i _ => ng - (intOf i).toNat)
     case atStart => exact ⟨0, rfl, Nat.zero_le _, Lib.hid HG.out.symm, Lib.hid (Below.refl _ _)⟩
     case round =>
      clear HB
      obtain ⟨j, rfl, hj, hF, hBq⟩ := hrel
      have HB := bwt HBq hBq.out
      have j0 : (0 : Int) ≤ (j : Int) := by omega
      by_cases hlj : j < ng
      ·have j1 : (j : Int) < (ng : Int) := by omega
       obtain ⟨bb, ob, rfl, hbb, hcc⟩ := (HGR.out _ (HB1.out.trans (HB.out.mono HB1.out.size))).addr (by omega)
       have km := blk_below kM HB.out
       have q0 : wr.cell? ⟨w.heap.size, 0, none⟩ = some (.slice ab nb cb) := blk_cell km (i := 0) rfl
       have q1 : wr.cell? ⟨w.heap.size, 1, none⟩ = some (.int .i64 st) := blk_cell km (i := 1) rfl
       have q2 : wr.cell? ⟨w.heap.size, 2, none⟩ = some (.slice (some ⟨bb, ob, none⟩) ng cg) := blk_cell km (i := 2) rfl
       have lr0 := blk_lt km
       clear km
       obtain ⟨c0, c1, c2, c3⟩ := hcc j hlj
       have hF' := hF.out
       rw [firstAt_step hlj] at hF'
       obtain ⟨⟨gc, gl, gi, go⟩, hx⟩ : ∃ x, x = gAt gs j := ⟨_, rfl⟩
       rw [← hx] at c0 c1 c2 c3 hF'
       simp only at c0 c1 c2 c3
       obtain ⟨V, hV⟩ : ∃ V, V = grdE nb ⟨gc, gl, gi, go⟩ := ⟨_, rfl⟩
       rw [← hV] at hF'
       have HF := Lib.hid hF'
       have hV2 : V = firstErr [unl (wi gc 0 ((nb : Int) - 1)) 6, unl (isS nb gi && isS nb go) 2] := hV
       have W1 := Lib.hid (fun w' => HW.out gc 0 ((nb : Int) - 1) w')
       have w2 : IntKind.i64.wrap ((nb : Int) - 1) = (nb : Int) - 1 := by rw [IntKind.wrap_i64]; omega
       clear hcc hx hF' hF hV
       go_wp2_with fail
       obtain ⟨X6, hX6⟩ : ∃ X, X = wr.heap.size := ⟨_, rfl⟩
       rw [← hX6]
       obtain ⟨wa, hW⟩ : ∃ wa, wa = wr.alloc (Obj.cells #[.int .i64 gc, .bool gl, .int .i64 gi, .int .i64 go] 77) := ⟨_, rfl⟩
       rw [← hW]
       have hba : Below wr.heap.size wr wa := by rw [hW]; (first|exact bwg|go_size)
       have k6 : wa.heap[X6]? = some (.cells #[.int .i64 gc, .bool gl, .int .i64 gi, .int .i64 go] 77) := by rw [hW, hX6]; exact heap_alloc_new _ _
       replace hBq := bwt hBq hba
       clear hW hX6 c0 c1 c2 c3 hbb
       replace HB := bwt HB hba
       clear hba
       clear q0 q1 q2 lr0
       have km := blk_below kM HB.out
       have q0 : wa.cell? ⟨w.heap.size, 0, none⟩ = some (.slice ab nb cb) := blk_cell km (i := 0) rfl
       have q1 : wa.cell? ⟨w.heap.size, 1, none⟩ = some (.int .i64 st) := blk_cell km (i := 1) rfl
       have q2 : wa.cell? ⟨w.heap.size, 2, none⟩ = some (.slice (some ⟨bb, ob, none⟩) ng cg) := blk_cell km (i := 2) rfl
       have lr0 := blk_lt km
       clear km
       have g0 := blk_cell k6 (i := 0) rfl
       have g2 := blk_cell k6 (i := 2) rfl
       have g3 := blk_cell k6 (i := 3) rfl
       have l6 := blk_lt k6
       clear k6
       have HS1 := Lib.hid (fun (W : World) (hbw : Below wa.heap.size wa W) => cm1_any gi w.heap.size nb cb ab W (by rw [cellB hbw _ _ lr0]; exact q0) (Nat.lt_of_lt_of_le lr0 hbw.size) (by omega))
       have HS2 := Lib.hid (fun (W : World) (hbw : Below wa.heap.size wa W) => cm1_any go w.heap.size nb cb ab W (by rw [cellB hbw _ _ lr0]; exact q0) (Nat.lt_of_lt_of_le lr0 hbw.size) (by omega))
       generalize isS nb gi = b1 at *
       generalize isS nb go = b2 at *
       generalize wi gc 0 ((nb : Int) - 1) = b0 at *
       have HV := Lib.hid hV2
       clear hV2
       cases b1
       ·skip
        go_wp2_with fail
        refine later_of_eq 19 (by kernel_rfl) (by kernel_rfl) ?_; simp only [List.take_succ_cons, List.take_zero, List.drop_succ_cons, List.drop_zero]; repeat go_big_quiet_step (first | with_reducible exact calls_later_same (W1.out _) | with_reducible exact calls_later_same (HS1.out _ (Later.below _)) | with_reducible exact calls_later_same (HS2.out _ (Later.below _)) | with_reducible exact calls_later_same (HU.out _ _ _))
        refine wpQuiet_nil ?_; intro wb hbb
        replace hBq := bwt hBq hbb
        clear g0 g2 g3 l6 HS1 HS2 w2
        replace HB := bwt HB hbb
        clear hbb
        clear q0 q1 q2 lr0
        have km := blk_below kM HB.out
        have q0 : wb.cell? ⟨w.heap.size, 0, none⟩ = some (.slice ab nb cb) := blk_cell km (i := 0) rfl
        have q1 : wb.cell? ⟨w.heap.size, 1, none⟩ = some (.int .i64 st) := blk_cell km (i := 1) rfl
        have q2 : wb.cell? ⟨w.heap.size, 2, none⟩ = some (.slice (some ⟨bb, ob, none⟩) ng cg) := blk_cell km (i := 2) rfl
        have lr0 := blk_lt km
        clear km
        go_wp2_with fail
        refine (t_first2 _ _ _ _ _ _ (by rfl) (by simp)).mono ?_
        rintro e11 wv ⟨rfl, hwv⟩
        have hbv : Below wb.heap.size wb wv := by rw [← hwv]; (first|exact bwg|go_size)
        replace hBq := bwt hBq hbv
        clear hwv
        replace HB := bwt HB hbv
        clear hbv
        clear q0 q1 q2 lr0
        have km := blk_below kM HB.out
        have q0 : wv.cell? ⟨w.heap.size, 0, none⟩ = some (.slice ab nb cb) := blk_cell km (i := 0) rfl
        have q1 : wv.cell? ⟨w.heap.size, 1, none⟩ = some (.int .i64 st) := blk_cell km (i := 1) rfl
        have q2 : wv.cell? ⟨w.heap.size, 2, none⟩ = some (.slice (some ⟨bb, ob, none⟩) ng cg) := blk_cell km (i := 2) rfl
        have lr0 := blk_lt km
        clear km
        rw [show firstErr [unl b0 6, unl false 2] = V by rw [HV.out]; rfl]
        by_cases hv0 : V = 0
        ·subst hv0
         go_wp2_with fail
         go_roundw
         case rel => exact ⟨j + 1, by go_num, by omega, Lib.hid (by have e := HF.out; rw [if_neg (by decide)] at e; exact e), hBq⟩
         case measure => simp [intOf]; omega
        ·have e2 := bne_iff_ne.2 hv0
         have hH : macE ⟨br, st, gs⟩ = ((j : Int), V) := by have e := HF.out; rw [if_pos hv0] at e; exact e.symm
         clear hv0
         go_wp2
         go_ret2
         exact ⟨by have := HE.out.trans hH; simp only [Prod.mk.injEq] at this; rw [this.1, this.2]; rfl, HB1.out.trans (HB.out.mono HB1.out.size)⟩
       ·skip
        go_wp2_with fail
        refine later_of_eq 19 (by kernel_rfl) (by kernel_rfl) ?_; simp only [List.take_succ_cons, List.take_zero, List.drop_succ_cons, List.drop_zero]; repeat go_big_quiet_step (first | with_reducible exact calls_later_same (W1.out _) | with_reducible exact calls_later_same (HS1.out _ (Later.below _)) | with_reducible exact calls_later_same (HS2.out _ (Later.below _)) | with_reducible exact calls_later_same (HU.out _ _ _))
        refine wpQuiet_nil ?_; intro wb hbb
        replace hBq := bwt hBq hbb
        clear g0 g2 g3 l6 HS1 HS2 w2
        replace HB := bwt HB hbb
        clear hbb
        clear q0 q1 q2 lr0
        have km := blk_below kM HB.out
        have q0 : wb.cell? ⟨w.heap.size, 0, none⟩ = some (.slice ab nb cb) := blk_cell km (i := 0) rfl
        have q1 : wb.cell? ⟨w.heap.size, 1, none⟩ = some (.int .i64 st) := blk_cell km (i := 1) rfl
        have q2 : wb.cell? ⟨w.heap.size, 2, none⟩ = some (.slice (some ⟨bb, ob, none⟩) ng cg) := blk_cell km (i := 2) rfl
        have lr0 := blk_lt km
        clear km
        go_wp2_with fail
        refine (t_first2 _ _ _ _ _ _ (by rfl) (by simp)).mono ?_
        rintro e11 wv ⟨rfl, hwv⟩
        have hbv : Below wb.heap.size wb wv := by rw [← hwv]; (first|exact bwg|go_size)
        replace hBq := bwt hBq hbv
        clear hwv
        replace HB := bwt HB hbv
        clear hbv
        clear q0 q1 q2 lr0
        have km := blk_below kM HB.out
        have q0 : wv.cell? ⟨w.heap.size, 0, none⟩ = some (.slice ab nb cb) := blk_cell km (i := 0) rfl
        have q1 : wv.cell? ⟨w.heap.size, 1, none⟩ = some (.int .i64 st) := blk_cell km (i := 1) rfl
        have q2 : wv.cell? ⟨w.heap.size, 2, none⟩ = some (.slice (some ⟨bb, ob, none⟩) ng cg) := blk_cell km (i := 2) rfl
        have lr0 := blk_lt km
        clear km
        rw [show firstErr [unl b0 6, unl b2 2] = V by rw [HV.out]; rfl]
        by_cases hv0 : V = 0
        ·subst hv0
         go_wp2_with fail
         go_roundw
         case rel => exact ⟨j + 1, by go_num, by omega, Lib.hid (by have e := HF.out; rw [if_neg (by decide)] at e; exact e), hBq⟩
         case measure => simp [intOf]; omega
        ·have e2 := bne_iff_ne.2 hv0
         have hH : macE ⟨br, st, gs⟩ = ((j : Int), V) := by have e := HF.out; rw [if_pos hv0] at e; exact e.symm
         clear hv0
         go_wp2
         go_ret2
         exact ⟨by have := HE.out.trans hH; simp only [Prod.mk.injEq] at this; rw [this.1, this.2]; rfl, HB1.out.trans (HB.out.mono HB1.out.size)⟩
      ·have hH : macE ⟨br, st, gs⟩ = (0, 0) := by rw [← hF.out, firstAt_end (by omega)]
       clear hF
       have km := blk_below kM HB.out
       have q0 : wr.cell? ⟨w.heap.size, 0, none⟩ = some (.slice ab nb cb) := blk_cell km (i := 0) rfl
       have q1 : wr.cell? ⟨w.heap.size, 1, none⟩ = some (.int .i64 st) := blk_cell km (i := 1) rfl
       have q2 : wr.cell? ⟨w.heap.size, 2, none⟩ = some (.slice ag ng cg) := blk_cell km (i := 2) rfl
       have lr0 := blk_lt km
       clear km
       go_wp2
       go_ret2
       exact ⟨by have := HE.out.trans hH; simp only [Prod.mk.injEq] at this; rw [this.1, this.2]; rfl, HB1.out.trans (HB.out.mono HB1.out.size)⟩
    ·have e1 := bne_iff_ne.2 h3
     have hH : macE ⟨br, st, gs⟩ = (0, K) := by
      rw [macE_k HHB.out HF0.out (by rw [← HKK.out]; exact h3), ← HKK.out]
     clear h3
     go_wp2
     go_ret2
     exact ⟨by have := HE.out.trans hH; simp only [Prod.mk.injEq] at this; rw [this.1, this.2]; rfl, HB1.out.trans (HB.out.mono HB1.out.size)⟩
 ·have e1 := bne_iff_ne.2 h0
  have hH : macE ⟨br, st, gs⟩ = (0, H) := by
   have e := macE_h (m := ⟨br, st, gs⟩) (by show macH br.length ≠ 0; rw [HHB.out]; exact h0)
   rw [e]
   show (0, macH br.length) = _
   rw [HHB.out]
  clear h0
  go_wp2
  go_ret2
  exact ⟨by have := HE.out.trans hH; simp only [Prod.mk.injEq] at this; rw [this.1, this.2]; rfl, HB1.out.trans (HB.out.mono HB1.out.size)⟩
/- A region that draws its order, by a schedule in which operations that only read and operations that come in their one order alternate. -/
section
variable {P : Program} {ops : Array Oper} {md : Region.Mode} {S : World → Prop} {Q : Exit → Act → World → Prop}
def mixB (md : Region.Mode) (ops : Array Oper) : List (Bool × Nat) → Array Bool → Bool
 | [], listed => decide (Region.ready md ops listed = [])
 | (true, h) :: r, listed => (Region.ready md ops listed).contains h && Region.free md ops listed h && (match ops[h]? with | some o => plainOp o | none => false) && mixB md ops r (listed.setIfInBounds h true)
 | (false, t) :: r, listed => decide (Region.ready md ops listed = [t]) && mixB md ops r (listed.setIfInBounds t true)
def wpMix (P : Program) (ops : Array Oper) (S : World → Prop) (Q : Exit → Act → World → Prop) : List (Bool × Oper) → Act → World → Prop
 | [], a, w => Q .normal a w
 | (true, o) :: r, a, w => wpQuiet P ops S (fun a' => wpMix P ops S Q r a' w) [o] a
 | (false, o) :: r, a, w => wpList P ops (tailQ S Q (wpMix P ops S Q r)) [o] a w
def opsOf (ops : Array Oper) (l : List (Bool × Nat)) : List (Bool × Oper) := l.filterMap (fun x => (ops[x.2]?).map (fun o => (x.1, o)))
theorem mix_anyH (hsel : Region.noSelect ops = true) : ∀ (l : List (Bool × Nat)) (listed : Array Bool) (a : Act) (w : World), mixB md ops l listed = true → (∀ x ∈ l, x.2 < ops.size) → S w →
    wpMix P ops S Q (opsOf ops l) a w → wpAnyH P md ops (NoPanic Q) S l.length listed a w
 | [], listed, a, w, hB, _, _, h => by
  simp only [mixB, decide_eq_true_eq] at hB
  exact ⟨hB, h⟩
 | (true, x) :: r, listed, a, w, hB, hlt, hS, h => by
  simp only [mixB, Bool.and_eq_true] at hB
  have hx := hlt (true, x) (by simp)
  have ho : ops[x]? = some ops[x] := by simp [hx]
  rw [ho] at hB
  have h' : wpQuiet P ops S (fun a' => wpMix P ops S Q (opsOf ops r) a' w) [ops[x]] a := by
   have : opsOf ops ((true, x) :: r) = (true, ops[x]) :: opsOf ops r := by simp [opsOf, ho]
   rw [this] at h; exact h
  have hst : qOp P ops S x (wpQuiet P ops S (fun a' => wpMix P ops S Q (opsOf ops r) a' w) []) a := by unfold qOp; simp only [ho]; exact h'
  obtain ⟨v, hy, hK⟩ := yieldsIn_of_qOp ho hst
  exact wpAnyH_take ho hsel hB.1.1.2 hB.1.1.1 (fun _ _ _ h => h.elim) (yieldsIf_of_in hB.1.2 hy) hS (mix_anyH hsel r _ _ w hB.2 (fun y hy => hlt y (by simp [hy])) hS hK)
 | (false, t) :: r, listed, a, w, hB, hlt, hS, h => by
  simp only [mixB, Bool.and_eq_true, decide_eq_true_eq] at hB
  have ht := hlt (false, t) (by simp)
  have ho : ops[t]? = some ops[t] := by simp [ht]
  have h' : wpList P ops (tailQ S Q (wpMix P ops S Q (opsOf ops r))) [ops[t]] a w := by
   have : opsOf ops ((false, t) :: r) = (false, ops[t]) :: opsOf ops r := by simp [opsOf, ho]
   rw [this] at h; exact h
  refine wpAnyH_all hB.1 (by simp) (fun i hi => ?_)
  have hit : i = t := by simpa using hi
  subst hit
  refine wpOp_mono (fun a' w' hh => ⟨hh.1, ?_⟩) (wpOp_of_tail ho h')
  exact mix_anyH hsel r _ a' w' hB.2 (fun x hx => hlt x (by simp [hx])) hh.1 hh.2
def mixOk (ops : Array Oper) (l : List (Bool × Nat)) : Bool :=
 Region.noSelect ops && decide (l.length = ops.size) && l.all (fun x => decide (x.2 < ops.size)) && mixB .any ops l (Array.replicate ops.size false)
theorem wp_region_mix {id : Nat} {a : Act} {w : World} {l : List Oper} (sc : List (Bool × Nat)) (S : World → Prop) (hm : P.follows .mixedOrders = true) (hB : mixOk l.toArray sc = true) (hS : S w.drew)
    (h : wpMix P l.toArray S Q (opsOf l.toArray sc) a w.drew) : (Code.region id l.toArray true).wp P Q a w := by
 simp only [mixOk, Bool.and_eq_true, decide_eq_true_eq, List.all_eq_true] at hB
 obtain ⟨⟨⟨h1, h2⟩, h3⟩, h5⟩ := hB
 refine wp_region_noPanic (wp_region_held (S := S) hm ?_)
 rw [← h2] at h5 ⊢
 exact mix_anyH h1 sc _ a _ h5 (fun x hx => h3 x hx) hS h
end
section
variable {P : Program} {B : Nat}
theorem wp_region_laterM {id : Nat} {Q : Exit → Act → World → Prop} {a : Act} {w : World} {l : List Oper} (sc : List (Bool × Nat)) (hm : P.follows .mixedOrders = true) (hB : mixOk l.toArray sc = true)
    (h : wpMix P l.toArray (fun w' => ∃ u : LaterB B w, w' = u.world) Q (opsOf l.toArray sc) a w.drew) : (Code.region id l.toArray true).wp P Q a w :=
 wp_region_mix sc _ hm hB ⟨⟨_, (Below.refl B w).drew⟩, rfl⟩ h
theorem mix_head {ops : Array Oper} {S : World → Prop} {Q : Exit → Act → World → Prop} {o : Oper} {r : List (Bool × Oper)} {a : Act} {w : World} (h : wpQuiet P ops S (fun a' => wpMix P ops S Q r a' w) [o] a) : wpMix P ops S Q ((true, o) :: r) a w := h
theorem mix_tail {ops : Array Oper} {S : World → Prop} {Q : Exit → Act → World → Prop} {o : Oper} {r : List (Bool × Oper)} {a : Act} {w : World} (h : wpList P ops (tailQ S Q (wpMix P ops S Q r)) [o] a w) : wpMix P ops S Q ((false, o) :: r) a w := h
theorem mix_nil {ops : Array Oper} {S : World → Prop} {Q : Exit → Act → World → Prop} {a : Act} {w : World} (h : Q .normal a w) : wpMix P ops S Q [] a w := h
end
end Go.Proofs.YtdjinmieogpgcaaGreat
/- A region that draws its order, by a schedule whose class of worlds becomes smaller behind a forced operation: what a call has handed out may then be read first. -/
namespace Go.Proofs.YtdjinmieogpgcaaGreat
open Go.RowKit
section
variable {P : Program} {ops : Array Oper} {md : Region.Mode} {Q : Exit → Act → World → Prop}
theorem anyH_mono {S S' : World → Prop} (hs : ∀ w, S' w → S w) : ∀ (fuel : Nat) (listed : Array Bool) (a : Act) (w : World), wpAnyH P md ops Q S' fuel listed a w → wpAnyH P md ops Q S fuel listed a w
 | 0, _, _, _, h => h
 | fuel + 1, listed, a, w, h => by
  refine ⟨h.1, fun i hi => wpOp_mono (fun a' w' hh => ⟨hs _ hh.1, anyH_mono hs fuel _ a' w' hh.2⟩) (h.2 i hi)⟩
def wpMixC (P : Program) (ops : Array Oper) (Q : Exit → Act → World → Prop) : List (Bool × Oper) → (World → Prop) → Act → World → Prop
 | [], _, a, w => Q .normal a w
 | (true, o) :: r, S, a, w => wpQuiet P ops S (fun a' => wpMixC P ops Q r S a' w) [o] a
 | (false, o) :: r, S, a, w => wpList P ops (tailQ S Q (fun a' w' => ∃ S' : World → Prop, (∀ x, S' x → S x) ∧ S' w' ∧ wpMixC P ops Q r S' a' w')) [o] a w
theorem mixC_anyH (hsel : Region.noSelect ops = true) : ∀ (l : List (Bool × Nat)) (S : World → Prop) (listed : Array Bool) (a : Act) (w : World), mixB md ops l listed = true → (∀ x ∈ l, x.2 < ops.size) → S w →
    wpMixC P ops Q (opsOf ops l) S a w → wpAnyH P md ops (NoPanic Q) S l.length listed a w
 | [], S, listed, a, w, hB, _, _, h => by
  simp only [mixB, decide_eq_true_eq] at hB
  exact ⟨hB, h⟩
 | (true, x) :: r, S, listed, a, w, hB, hlt, hS, h => by
  simp only [mixB, Bool.and_eq_true] at hB
  have hx := hlt (true, x) (by simp)
  have ho : ops[x]? = some ops[x] := by simp [hx]
  rw [ho] at hB
  have h' : wpQuiet P ops S (fun a' => wpMixC P ops Q (opsOf ops r) S a' w) [ops[x]] a := by
   have : opsOf ops ((true, x) :: r) = (true, ops[x]) :: opsOf ops r := by simp [opsOf, ho]
   rw [this] at h; exact h
  have hst : qOp P ops S x (wpQuiet P ops S (fun a' => wpMixC P ops Q (opsOf ops r) S a' w) []) a := by unfold qOp; simp only [ho]; exact h'
  obtain ⟨v, hy, hK⟩ := yieldsIn_of_qOp ho hst
  exact wpAnyH_take ho hsel hB.1.1.2 hB.1.1.1 (fun _ _ _ h => h.elim) (yieldsIf_of_in hB.1.2 hy) hS (mixC_anyH hsel r S _ _ w hB.2 (fun y hy => hlt y (by simp [hy])) hS hK)
 | (false, t) :: r, S, listed, a, w, hB, hlt, hS, h => by
  simp only [mixB, Bool.and_eq_true, decide_eq_true_eq] at hB
  have ht := hlt (false, t) (by simp)
  have ho : ops[t]? = some ops[t] := by simp [ht]
  have h' : wpList P ops (tailQ S Q (fun a' w' => ∃ S' : World → Prop, (∀ x, S' x → S x) ∧ S' w' ∧ wpMixC P ops Q (opsOf ops r) S' a' w')) [ops[t]] a w := by
   have : opsOf ops ((false, t) :: r) = (false, ops[t]) :: opsOf ops r := by simp [opsOf, ho]
   rw [this] at h; exact h
  refine wpAnyH_all hB.1 (by simp) (fun i hi => ?_)
  have hit : i = t := by simpa using hi
  subst hit
  refine wpOp_mono (fun a' w' hh => ⟨hh.1, ?_⟩) (wpOp_of_tail ho h')
  obtain ⟨S', h1, h2, h3⟩ := hh.2
  exact anyH_mono h1 _ _ _ _ (mixC_anyH hsel r S' _ a' w' hB.2 (fun x hx => hlt x (by simp [hx])) h2 h3)
theorem wp_region_laterC {B b0 : Nat} {id : Nat} {a : Act} {w : World} {l : List Oper} (sc : List (Bool × Nat)) (hm : P.follows .mixedOrders = true) (hB : mixOk l.toArray sc = true)
    (h : wpMixC P l.toArray Q (opsOf l.toArray sc) (fun w' => ∃ u : LaterX B b0 w, w' = u.world) a w.drew) : (Code.region id l.toArray true).wp P Q a w := by
 simp only [mixOk, Bool.and_eq_true, decide_eq_true_eq, List.all_eq_true] at hB
 obtain ⟨⟨⟨h1, h2⟩, h3⟩, h5⟩ := hB
 refine wp_region_noPanic (wp_region_held (S := fun w' => ∃ u : LaterX B b0 w, w' = u.world) hm ?_)
 rw [← h2] at h5 ⊢
 exact mixC_anyH h1 sc _ _ a _ h5 (fun x hx => h3 x hx) ⟨⟨_, SameX.drew (fun _ _ _ _ => rfl)⟩, rfl⟩ h
theorem mixc_head {S : World → Prop} {o : Oper} {r : List (Bool × Oper)} {a : Act} {w : World} (h : wpQuiet P ops S (fun a' => wpMixC P ops Q r S a' w) [o] a) : wpMixC P ops Q ((true, o) :: r) S a w := h
theorem mixc_tail {S : World → Prop} {o : Oper} {r : List (Bool × Oper)} {a : Act} {w : World} (h : wpList P ops (tailQ S Q (fun a' w' => ∃ S' : World → Prop, (∀ x, S' x → S x) ∧ S' w' ∧ wpMixC P ops Q r S' a' w')) [o] a w) : wpMixC P ops Q ((false, o) :: r) S a w := h
theorem mixc_nil {S : World → Prop} {a : Act} {w : World} (h : Q .normal a w) : wpMixC P ops Q [] S a w := h
theorem tailC_stay {B b0 : Nat} {r : List (Bool × Oper)} {a : Act} {w w' : World} (hs : SameX B b0 w w') (hk : wpMixC P ops Q r (fun x => ∃ u : LaterX B b0 w, x = u.world) a w') :
    tailQ (fun x => ∃ u : LaterX B b0 w, x = u.world) Q (fun a' w' => ∃ S' : World → Prop, (∀ x, S' x → (∃ u : LaterX B b0 w, x = u.world)) ∧ S' w' ∧ wpMixC P ops Q r S' a' w') .normal a w' :=
 ⟨⟨⟨w', hs⟩, rfl⟩, _, fun _ h => h, ⟨⟨w', hs⟩, rfl⟩, hk⟩
end
end Go.Proofs.YtdjinmieogpgcaaGreat
