import Derived.Test.YtdjinmieogpgcaaGreatMTMac
/- Machines: copies, MachineErr, bothErr, few (the reference and the statements). -/
namespace Go.Proofs.YtdjinmieogpgcaaGreat
open Go.RowKit
set_option linter.unusedVariables false
set_option linter.unusedSimpArgs false
theorem infoBr : (Tryz.prog.info? 126).map (fun i => (i.zero, i.size, i.bytes)) = some (some (.agg #[.int .i64 0, .int .i64 0]), 2, 16) := by kernel_rfl
theorem infoGr : (Tryz.prog.info? 77).map (fun i => (i.zero, i.size, i.bytes)) = some (some (.agg #[.int .i64 0, .bool false, .int .i64 0, .int .i64 0]), 4, 32) := by kernel_rfl
theorem machineErr_any (m : Mac) (ab ag : Option Addr) (nb cb ng cg : Nat) (w : World) (hb : BrR w ab nb m.br) (hg : GrR w ag ng m.gs) :
    Calls Tryz.prog 54 #[.agg #[.slice ab nb cb, .int .i64 m.st, .slice ag ng cg]] w fun e' w' => e' = .returned (.int .i64 (macE m).2) ∧ Below w.heap.size w w' := by
 have HC := Lib.hid (fun (W : World) (hbw : Below w.heap.size w W) => rCheckMachine_any m ab ag nb cb ng cg W (hb.below hbw) (hg.below hbw))
 generalize macE m = E at *
 obtain ⟨k, e⟩ := E
 simp only at HC ⊢
 clear hb hg
 go_enter Tryz.func54, Tryz.ntmps54
 go_wp2_with fail
 refine (HC.out _ (by (first|exact bwg|go_size))).mono ?_
 rintro e5 w5 ⟨rfl, hb5⟩
 go_wp2
 go_ret
 exact ⟨rfl, by (first|exact bwg|go_size)⟩
theorem bothErr_any (m : Mac) (l : Lim) (ab ag : Option Addr) (nb cb ng cg : Nat) (w : World) (hb : BrR w ab nb m.br) (hg : GrR w ag ng m.gs) :
    Calls Tryz.prog 19 #[.agg #[.slice ab nb cb, .int .i64 m.st, .slice ag ng cg], .agg #[.int .i64 l.volt, .int .i64 l.lo, .int .i64 l.hi, .int .i64 l.circ, .int .i64 l.brk, .int .i64 l.ret]] w fun e' w' => e' = .returned (.int .i64 (firstErr [(macE m).2, limE l])) ∧ Below w.heap.size w w' := by
 have HC := Lib.hid (fun (W : World) (hbw : Below w.heap.size w W) => machineErr_any m ab ag nb cb ng cg W (hb.below hbw) (hg.below hbw))
 have HL := Lib.hid (fun (W : World) => rLimE_any l W)
 generalize (macE m).2 = E at *
 generalize limE l = E2 at *
 obtain ⟨vo, lo, hi, ci, br, re⟩ := l
 obtain ⟨V, hV⟩ : ∃ V, V = firstErr [E, E2] := ⟨_, rfl⟩
 have HV := Lib.hid hV
 rw [← hV]
 simp only at HL ⊢
 clear hb hg hV
 go_enter Tryz.func19, Tryz.ntmps19
 go_wp2_with fail
 refine (HC.out _ (by (first|exact bwg|go_size))).mono ?_
 rintro e5 w5 ⟨rfl, hb5⟩
 have hz5 := hb5.size
 simp only [World.size_alloc] at hz5
 have q0 : w5.cell? ⟨w.heap.size + 1, 0, none⟩ = some (.int .i64 vo) := bwc hb5; have q1 : w5.cell? ⟨w.heap.size + 1, 1, none⟩ = some (.int .i64 lo) := bwc hb5; have q2 : w5.cell? ⟨w.heap.size + 1, 2, none⟩ = some (.int .i64 hi) := bwc hb5; have q3 : w5.cell? ⟨w.heap.size + 1, 3, none⟩ = some (.int .i64 ci) := bwc hb5; have q4 : w5.cell? ⟨w.heap.size + 1, 4, none⟩ = some (.int .i64 br) := bwc hb5; have q5 : w5.cell? ⟨w.heap.size + 1, 5, none⟩ = some (.int .i64 re) := bwc hb5; have l5 : w.heap.size + 1 < w5.heap.size := by { omega }
 have HB5 := Lib.hid (show Below w.heap.size w w5 by (first|exact bwg|go_size))
 clear hb5 hz5
 by_cases h : E = 0
 ·subst h
  go_wp2_with fail
  refine (HL.out _).mono ?_
  rintro e6 w6 ⟨rfl, hb6⟩
  go_wp2
  go_ret
  exact ⟨ret_int (by rw [HV.out]; show E2 = if E2 = 0 then 0 else E2; split <;> simp_all), HB5.out.trans (hb6.mono HB5.out.size)⟩
 ·have e1 := bne_iff_ne.2 h
  go_wp2
  go_ret
  exact ⟨ret_int (by rw [HV.out]; simp [firstErr, h]), HB5.out⟩
theorem few_any (x : Int) (ab ag : Option Addr) (nb cb ng cg : Nat) (w : World) (h1 : nb ≤ 9223372036854775807) (h2 : ng ≤ 9223372036854775807) :
    Calls Tryz.prog 13 #[.agg #[.slice ab nb cb, .int .i64 x, .slice ag ng cg]] w fun e' w' => e' = .returned (.bool (decide (nb ≤ 8) && decide (ng ≤ 32))) ∧ Below w.heap.size w w' := by
 by_cases h : (nb : Int) ≤ 8
 ·go_enter Tryz.func13, Tryz.ntmps13
  go_wp2
  go_ret
  refine ⟨ret_bool ?_, by (first|exact bwg|go_size)⟩
  have e1 : decide (nb ≤ 8) = true := decide_eq_true (by omega)
  have e2 : decide (ng ≤ 32) = decide ((ng : Int) ≤ 32) := by rw [Bool.eq_iff_iff, decide_eq_true_eq, decide_eq_true_eq]; omega
  rw [e1, e2]; rfl
 ·go_enter Tryz.func13, Tryz.ntmps13
  go_wp2
  go_ret
  refine ⟨ret_bool ?_, by (first|exact bwg|go_size)⟩
  have e1 : decide (nb ≤ 8) = false := decide_eq_false (by omega)
  rw [e1]; rfl
theorem own_otherT {w w' : World} {base n sz : Nat} {e : TypeId} {v : Value} {xs : List Value} (h : w.ownsRow base e sz v n xs) (hg : w.grownBy w' v.ownBlock) {t : TypeId} (ht : e ≠ t) : ∀ (B : Nat) cur z, w.heap[B]? = some (.cells cur t z) → w'.heap[B]? = some (.cells cur t z) := fun B cur z hB => by
 rw [hg.block B (Array.getElem?_eq_some_iff.1 hB).1 (fun e => ?_)]
 ·exact hB
 ·rcases h.2 with ⟨rfl, _⟩ | ⟨g, cap, cur', rfl, _, hgg, _⟩
  ·simp [Value.ownBlock] at e
  ·simp only [Value.ownBlock, Option.some.injEq] at e
   subst e
   rw [hgg] at hB
   simp only [Option.some.injEq, Obj.cells.injEq] at hB
   exact absurd hB.2.1 ht
theorem owns_typed {w w' : World} {base n sz : Nat} {t : TypeId} {v : Value} {xs : List Value} (h : w.ownsRow base t sz v n xs) (hk : ∀ (B : Nat) cur z, w.heap[B]? = some (.cells cur t z) → w'.heap[B]? = some (.cells cur t z)) : w'.ownsRow base t sz v n xs :=
 ⟨h.1, h.2.imp id (fun ⟨g, cap, cur, hv, hb, hg, r⟩ => ⟨g, cap, cur, hv, hb, hk _ _ _ hg, r⟩)⟩
set_option maxHeartbeats 2000000 in
set_option maxRecDepth 100000 in
theorem copyM_any (m : Mac) (ab ag : Option Addr) (nb cb ng cg : Nat) (w : World) (hb : BrR w ab nb m.br) (hg : GrR w ag ng m.gs) (h1 : nb ≤ 100000) (h2 : ng ≤ 100000) :
    Calls Tryz.prog 15 #[.agg #[.slice ab nb cb, .int .i64 m.st, .slice ag ng cg]] w fun e' w' => ∃ a1 c1 a2 c2, e' = .returned (.agg #[.slice a1 nb c1, .int .i64 m.st, .slice a2 ng c2]) ∧ Below w.heap.size w w' ∧ BrR w' a1 nb m.br ∧ GrR w' a2 ng m.gs := by
 have HBR := Lib.hid (fun (W : World) (hbw : Below w.heap.size w W) => hb.below hbw)
 have HGR := Lib.hid (fun (W : World) (hbw : Below w.heap.size w W) => hg.below hbw)
 have HLB := Lib.hid hb.len
 have HLG := Lib.hid hg.len
 clear hb hg
 go_enter Tryz.func15, Tryz.ntmps15
 go_wp2_with fail
 obtain ⟨w1, hW⟩ : ∃ w1, w1 = (w.alloc (Obj.cells #[.slice ab nb cb, .int .i64 m.st, .slice ag ng cg] 45)).alloc (Obj.cells #[.slice none 0 0, .int .i64 0, .slice none 0 0] 45) := ⟨_, rfl⟩
 rw [← hW]
 have hb1 : Below w.heap.size w w1 := by rw [hW]; (first|exact bwg|go_size)
 have hs1 : w1.heap.size = w.heap.size + 1 + 1 := by rw [hW]; simp
 have k1 : w1.heap[w.heap.size]? = some (.cells #[.slice ab nb cb, .int .i64 m.st, .slice ag ng cg] 45) := by rw [hW, Below.heap_alloc _ _ _ (by simp)]; exact heap_alloc_new _ _
 have k2 : w1.heap[w.heap.size + 1]? = some (.cells #[.slice none 0 0, .int .i64 0, .slice none 0 0] 45) := by
  rw [hW]
  have := heap_alloc_new (w.alloc (Obj.cells #[.slice ab nb cb, .int .i64 m.st, .slice ag ng cg] 45)) (Obj.cells #[.slice none 0 0, .int .i64 0, .slice none 0 0] 45)
  simpa using this
 obtain ⟨q0, q1, q2, lr0⟩ := blkc3 k1
 have hB12 : w.heap.size + 1 ≤ w1.heap.size := by omega
 have hB13 : w.heap.size + 1 < w1.heap.size := by omega
 have HB1 := Lib.hid hb1
 clear hW hb1 k1 hs1
 have HN := Lib.hid (Below.refl w1.heap.size w1).drew
 refine wp_region_laterT (B := w.heap.size + 1) (.head 1 (.head 2 (.head 4 (.head 5 (.head 7 (.head 8 (.two 0 (.two 3 (.one 6 (.one 9 (.head 10 (.one 11 .done)))) 6 (.one 3 (.one 9 (.head 10 (.one 11 .done))))) 6 (.one 0 (.one 3 (.one 9 (.head 10 (.one 11 .done)))))))))))) (by kernel_rfl) (by kernel_rfl) ?_
 repeat (refine tree_head rfl ?_; (show wpQuiet _ _ _ _ (_ :: _) _; go_big_quiet_step (fail)); refine wpQuiet_nil ?_)
 refine tree_two rfl rfl ?_ ?_
 ·go_wp2_with fail
  have hbx : Below w1.heap.size w1 ((w1.alloc (Obj.cells #[] 126)).drew) := by (first|exact bwg|go_size)
  have hox := (World.ownsRow_made (base := w1.heap.size) (e := 126) (size := 2) w1 #[] 0 (by first | exact HN.out.size | exact Nat.le_refl _) (by simp [maxLen]) rfl).drew
  generalize (w1.alloc (Obj.cells #[] 126)).drew = wa at *
  skip
  replace HN := Lib.hid (hbx)
  have HOB := Lib.hid hox
  clear hbx hox
  refine tailL_mk (HN.out.mono hB12) ?_
  repeat (refine tree_head rfl ?_; (show wpQuiet _ _ _ _ (_ :: _) _; go_big_quiet_step (fail)); refine wpQuiet_nil ?_)
  refine tree_two rfl rfl ?_ ?_
  ·skip
   go_wp2_with (at_builtin; refine wpList_append_sl _ rfl _ _ 42 rfl w1.heap.size 126 _ 2 16 Tryz.underlying42 infoBr rfl (by omega) _ 0 _ rfl HOB.out _ nb cb (ecells eB m.br) rfl (HBR.out _ (HB1.out.trans (HN.out.mono HB1.out.size))).2 (ecells_ones eB_one m.br) (by omega) (by omega) (by have := HN.out.size; omega) ?_)
   intro v2 wb hown2 hgr2 hb2
   obtain ⟨aB, cB, rfl, _, _⟩ := owns_slice hown2
   skip
   replace HN := Lib.hid (HN.out.trans hb2)
   have HOB := Lib.hid hown2
   clear hown2 hgr2 hb2
   go_wp2_with fail
   refine tailL_mk (HN.out.mono hB12) ?_
   repeat (refine tree_head rfl ?_; (show wpQuiet _ _ _ _ (_ :: _) _; go_big_quiet_step (fail)); refine wpQuiet_nil ?_)
   refine tree_one rfl ?_; go_wp2_with fail
   have hbx : Below wb.heap.size wb ((wb.alloc (Obj.cells #[] 77))) := by (first|exact bwg|go_size)
   have hox := (World.ownsRow_made (base := w1.heap.size) (e := 77) (size := 4) wb #[] 0 (by first | exact HN.out.size | exact Nat.le_refl _) (by simp [maxLen]) rfl)
   generalize (wb.alloc (Obj.cells #[] 77)) = wc at *
   replace HOB := Lib.hid (owns_below HOB.out hbx (fun z hz => (HOB.out.lt z hz).2))
   replace HN := bwt HN hbx
   have HOG := Lib.hid hox
   clear hbx hox
   refine tailL_mk (HN.out.mono hB12) ?_
   repeat (refine tree_head rfl ?_; (show wpQuiet _ _ _ _ (_ :: _) _; go_big_quiet_step (fail)); refine wpQuiet_nil ?_)
   refine tree_one rfl ?_
   go_wp2_with (at_builtin; refine wpList_append_sl _ rfl _ _ 43 rfl w1.heap.size 77 _ 4 32 Tryz.underlying43 infoGr rfl (by omega) _ 0 _ rfl HOG.out _ ng cg (ecells eG m.gs) rfl (HGR.out _ (HB1.out.trans (HN.out.mono HB1.out.size))).2 (ecells_ones eG_one m.gs) (by omega) (by omega) (by have := HN.out.size; omega) ?_)
   intro v3 wd hown2 hgr2 hb2
   obtain ⟨aG, cG, rfl, _, _⟩ := owns_slice hown2
   replace HOB := Lib.hid (owns_typed HOB.out (own_otherT HOG.out hgr2 (by decide)))
   replace HN := Lib.hid (HN.out.trans hb2)
   have HOG := Lib.hid hown2
   clear hown2 hgr2 hb2
   go_wp2_with fail
   refine tailL_mk (HN.out.mono hB12) ?_
   repeat (refine tree_head rfl ?_; (show wpQuiet _ _ _ _ (_ :: _) _; go_big_quiet_step (fail)); refine wpQuiet_nil ?_)
   refine tree_one rfl ?_
   have hzx := HN.out.size
   have kx := (HN.out.block (w.heap.size + 1) (by omega)).trans k2
   obtain ⟨c0, c1, c2, _⟩ := blkc3 kx
   have f0 := blk_fz kx 0
   have f1 := blk_fz kx 1
   have f2 := blk_fz kx 2
   have HKX := Lib.hid kx
   clear kx
   go_wp2_with fail
   refine tailL_mk (.setCell (.setCell (.setCell (HN.out.mono hB12) (by simp) _) (by simp) _) (by simp) _) ?_
   refine tree_done ?_
   go_wp2_with fail
   have kz := blk_set (blk_set (blk_set HKX.out 0 (.slice aB (0 + nb) cB)) 1 (.int .i64 m.st)) 2 (.slice aG (0 + ng) cG)
   have hbz := Below.setCell (Below.setCell (Below.setCell (HN.out.mono hB12) (p := ⟨w.heap.size + 1, 0, none⟩) (Nat.le_refl _) (.slice aB (0 + nb) cB)) (p := ⟨w.heap.size + 1, 1, none⟩) (Nat.le_refl _) (.int .i64 m.st)) (p := ⟨w.heap.size + 1, 2, none⟩) (Nat.le_refl _) (.slice aG (0 + ng) cG)
   have hoB := ownsRow_setCell_below (ownsRow_setCell_below (ownsRow_setCell_below HOB.out (a := ⟨w.heap.size + 1, 0, none⟩) hB13 (.slice aB (0 + nb) cB)) (a := ⟨w.heap.size + 1, 1, none⟩) hB13 (.int .i64 m.st)) (a := ⟨w.heap.size + 1, 2, none⟩) hB13 (.slice aG (0 + ng) cG)
   have hoG := ownsRow_setCell_below (ownsRow_setCell_below (ownsRow_setCell_below HOG.out (a := ⟨w.heap.size + 1, 0, none⟩) hB13 (.slice aB (0 + nb) cB)) (a := ⟨w.heap.size + 1, 1, none⟩) hB13 (.int .i64 m.st)) (a := ⟨w.heap.size + 1, 2, none⟩) hB13 (.slice aG (0 + ng) cG)
   simp only [Nat.zero_add, List.nil_append] at kz hbz hoB hoG
   generalize World.setCell (World.setCell (World.setCell _ _ _) _ _) _ _ = wz at *
   obtain ⟨r0, r1, r2, _⟩ := blkc3 kz
   refine bodyPost_ret (v := .agg #[.slice aB nb cB, .int .i64 m.st, .slice aG ng cG]) (by simp [results, Tryz.results15, go_sem, r0, r1, r2]) rfl ⟨aB, cB, aG, cG, rfl, HB1.out.trans (hbz.mono (by omega)), ER.of_owns HLB.out hoB, ER.of_owns HLG.out hoG⟩
  ·go_wp2_with fail
   have hbx : Below wa.heap.size wa ((wa.alloc (Obj.cells #[] 77))) := by (first|exact bwg|go_size)
   have hox := (World.ownsRow_made (base := w1.heap.size) (e := 77) (size := 4) wa #[] 0 (by first | exact HN.out.size | exact Nat.le_refl _) (by simp [maxLen]) rfl)
   generalize (wa.alloc (Obj.cells #[] 77)) = wc at *
   replace HOB := Lib.hid (owns_below HOB.out hbx (fun z hz => (HOB.out.lt z hz).2))
   replace HN := bwt HN hbx
   have HOG := Lib.hid hox
   clear hbx hox
   refine tailL_mk (HN.out.mono hB12) ?_
   repeat (refine tree_head rfl ?_; (show wpQuiet _ _ _ _ (_ :: _) _; go_big_quiet_step (fail)); refine wpQuiet_nil ?_)
   refine tree_one rfl ?_
   go_wp2_with (at_builtin; refine wpList_append_sl _ rfl _ _ 42 rfl w1.heap.size 126 _ 2 16 Tryz.underlying42 infoBr rfl (by omega) _ 0 _ rfl HOB.out _ nb cb (ecells eB m.br) rfl (HBR.out _ (HB1.out.trans (HN.out.mono HB1.out.size))).2 (ecells_ones eB_one m.br) (by omega) (by omega) (by have := HN.out.size; omega) ?_)
   intro v2 wb hown2 hgr2 hb2
   obtain ⟨aB, cB, rfl, _, _⟩ := owns_slice hown2
   replace HOG := Lib.hid (owns_typed HOG.out (own_otherT HOB.out hgr2 (by decide)))
   replace HN := Lib.hid (HN.out.trans hb2)
   have HOB := Lib.hid hown2
   clear hown2 hgr2 hb2
   go_wp2_with fail
   refine tailL_mk (HN.out.mono hB12) ?_
   repeat (refine tree_head rfl ?_; (show wpQuiet _ _ _ _ (_ :: _) _; go_big_quiet_step (fail)); refine wpQuiet_nil ?_)
   refine tree_one rfl ?_
   go_wp2_with (at_builtin; refine wpList_append_sl _ rfl _ _ 43 rfl w1.heap.size 77 _ 4 32 Tryz.underlying43 infoGr rfl (by omega) _ 0 _ rfl HOG.out _ ng cg (ecells eG m.gs) rfl (HGR.out _ (HB1.out.trans (HN.out.mono HB1.out.size))).2 (ecells_ones eG_one m.gs) (by omega) (by omega) (by have := HN.out.size; omega) ?_)
   intro v3 wd hown2 hgr2 hb2
   obtain ⟨aG, cG, rfl, _, _⟩ := owns_slice hown2
   replace HOB := Lib.hid (owns_typed HOB.out (own_otherT HOG.out hgr2 (by decide)))
   replace HN := Lib.hid (HN.out.trans hb2)
   have HOG := Lib.hid hown2
   clear hown2 hgr2 hb2
   go_wp2_with fail
   refine tailL_mk (HN.out.mono hB12) ?_
   repeat (refine tree_head rfl ?_; (show wpQuiet _ _ _ _ (_ :: _) _; go_big_quiet_step (fail)); refine wpQuiet_nil ?_)
   refine tree_one rfl ?_
   have hzx := HN.out.size
   have kx := (HN.out.block (w.heap.size + 1) (by omega)).trans k2
   obtain ⟨c0, c1, c2, _⟩ := blkc3 kx
   have f0 := blk_fz kx 0
   have f1 := blk_fz kx 1
   have f2 := blk_fz kx 2
   have HKX := Lib.hid kx
   clear kx
   go_wp2_with fail
   refine tailL_mk (.setCell (.setCell (.setCell (HN.out.mono hB12) (by simp) _) (by simp) _) (by simp) _) ?_
   refine tree_done ?_
   go_wp2_with fail
   have kz := blk_set (blk_set (blk_set HKX.out 0 (.slice aB (0 + nb) cB)) 1 (.int .i64 m.st)) 2 (.slice aG (0 + ng) cG)
   have hbz := Below.setCell (Below.setCell (Below.setCell (HN.out.mono hB12) (p := ⟨w.heap.size + 1, 0, none⟩) (Nat.le_refl _) (.slice aB (0 + nb) cB)) (p := ⟨w.heap.size + 1, 1, none⟩) (Nat.le_refl _) (.int .i64 m.st)) (p := ⟨w.heap.size + 1, 2, none⟩) (Nat.le_refl _) (.slice aG (0 + ng) cG)
   have hoB := ownsRow_setCell_below (ownsRow_setCell_below (ownsRow_setCell_below HOB.out (a := ⟨w.heap.size + 1, 0, none⟩) hB13 (.slice aB (0 + nb) cB)) (a := ⟨w.heap.size + 1, 1, none⟩) hB13 (.int .i64 m.st)) (a := ⟨w.heap.size + 1, 2, none⟩) hB13 (.slice aG (0 + ng) cG)
   have hoG := ownsRow_setCell_below (ownsRow_setCell_below (ownsRow_setCell_below HOG.out (a := ⟨w.heap.size + 1, 0, none⟩) hB13 (.slice aB (0 + nb) cB)) (a := ⟨w.heap.size + 1, 1, none⟩) hB13 (.int .i64 m.st)) (a := ⟨w.heap.size + 1, 2, none⟩) hB13 (.slice aG (0 + ng) cG)
   simp only [Nat.zero_add, List.nil_append] at kz hbz hoB hoG
   generalize World.setCell (World.setCell (World.setCell _ _ _) _ _) _ _ = wz at *
   obtain ⟨r0, r1, r2, _⟩ := blkc3 kz
   refine bodyPost_ret (v := .agg #[.slice aB nb cB, .int .i64 m.st, .slice aG ng cG]) (by simp [results, Tryz.results15, go_sem, r0, r1, r2]) rfl ⟨aB, cB, aG, cG, rfl, HB1.out.trans (hbz.mono (by omega)), ER.of_owns HLB.out hoB, ER.of_owns HLG.out hoG⟩
 ·go_wp2_with fail
  have hbx : Below w1.heap.size w1 ((w1.alloc (Obj.cells #[] 77)).drew) := by (first|exact bwg|go_size)
  have hox := (World.ownsRow_made (base := w1.heap.size) (e := 77) (size := 4) w1 #[] 0 (by first | exact HN.out.size | exact Nat.le_refl _) (by simp [maxLen]) rfl).drew
  generalize (w1.alloc (Obj.cells #[] 77)).drew = wa at *
  skip
  replace HN := Lib.hid (hbx)
  have HOG := Lib.hid hox
  clear hbx hox
  refine tailL_mk (HN.out.mono hB12) ?_
  repeat (refine tree_head rfl ?_; (show wpQuiet _ _ _ _ (_ :: _) _; go_big_quiet_step (fail)); refine wpQuiet_nil ?_)
  refine tree_one rfl ?_; go_wp2_with fail
  have hbx : Below wa.heap.size wa ((wa.alloc (Obj.cells #[] 126))) := by (first|exact bwg|go_size)
  have hox := (World.ownsRow_made (base := w1.heap.size) (e := 126) (size := 2) wa #[] 0 (by first | exact HN.out.size | exact Nat.le_refl _) (by simp [maxLen]) rfl)
  generalize (wa.alloc (Obj.cells #[] 126)) = wc at *
  replace HOG := Lib.hid (owns_below HOG.out hbx (fun z hz => (HOG.out.lt z hz).2))
  replace HN := bwt HN hbx
  have HOB := Lib.hid hox
  clear hbx hox
  refine tailL_mk (HN.out.mono hB12) ?_
  repeat (refine tree_head rfl ?_; (show wpQuiet _ _ _ _ (_ :: _) _; go_big_quiet_step (fail)); refine wpQuiet_nil ?_)
  refine tree_one rfl ?_
  go_wp2_with (at_builtin; refine wpList_append_sl _ rfl _ _ 42 rfl w1.heap.size 126 _ 2 16 Tryz.underlying42 infoBr rfl (by omega) _ 0 _ rfl HOB.out _ nb cb (ecells eB m.br) rfl (HBR.out _ (HB1.out.trans (HN.out.mono HB1.out.size))).2 (ecells_ones eB_one m.br) (by omega) (by omega) (by have := HN.out.size; omega) ?_)
  intro v2 wb hown2 hgr2 hb2
  obtain ⟨aB, cB, rfl, _, _⟩ := owns_slice hown2
  replace HOG := Lib.hid (owns_typed HOG.out (own_otherT HOB.out hgr2 (by decide)))
  replace HN := Lib.hid (HN.out.trans hb2)
  have HOB := Lib.hid hown2
  clear hown2 hgr2 hb2
  go_wp2_with fail
  refine tailL_mk (HN.out.mono hB12) ?_
  repeat (refine tree_head rfl ?_; (show wpQuiet _ _ _ _ (_ :: _) _; go_big_quiet_step (fail)); refine wpQuiet_nil ?_)
  refine tree_one rfl ?_
  go_wp2_with (at_builtin; refine wpList_append_sl _ rfl _ _ 43 rfl w1.heap.size 77 _ 4 32 Tryz.underlying43 infoGr rfl (by omega) _ 0 _ rfl HOG.out _ ng cg (ecells eG m.gs) rfl (HGR.out _ (HB1.out.trans (HN.out.mono HB1.out.size))).2 (ecells_ones eG_one m.gs) (by omega) (by omega) (by have := HN.out.size; omega) ?_)
  intro v3 wd hown2 hgr2 hb2
  obtain ⟨aG, cG, rfl, _, _⟩ := owns_slice hown2
  replace HOB := Lib.hid (owns_typed HOB.out (own_otherT HOG.out hgr2 (by decide)))
  replace HN := Lib.hid (HN.out.trans hb2)
  have HOG := Lib.hid hown2
  clear hown2 hgr2 hb2
  go_wp2_with fail
  refine tailL_mk (HN.out.mono hB12) ?_
  repeat (refine tree_head rfl ?_; (show wpQuiet _ _ _ _ (_ :: _) _; go_big_quiet_step (fail)); refine wpQuiet_nil ?_)
  refine tree_one rfl ?_
  have hzx := HN.out.size
  have kx := (HN.out.block (w.heap.size + 1) (by omega)).trans k2
  obtain ⟨c0, c1, c2, _⟩ := blkc3 kx
  have f0 := blk_fz kx 0
  have f1 := blk_fz kx 1
  have f2 := blk_fz kx 2
  have HKX := Lib.hid kx
  clear kx
  go_wp2_with fail
  refine tailL_mk (.setCell (.setCell (.setCell (HN.out.mono hB12) (by simp) _) (by simp) _) (by simp) _) ?_
  refine tree_done ?_
  go_wp2_with fail
  have kz := blk_set (blk_set (blk_set HKX.out 0 (.slice aB (0 + nb) cB)) 1 (.int .i64 m.st)) 2 (.slice aG (0 + ng) cG)
  have hbz := Below.setCell (Below.setCell (Below.setCell (HN.out.mono hB12) (p := ⟨w.heap.size + 1, 0, none⟩) (Nat.le_refl _) (.slice aB (0 + nb) cB)) (p := ⟨w.heap.size + 1, 1, none⟩) (Nat.le_refl _) (.int .i64 m.st)) (p := ⟨w.heap.size + 1, 2, none⟩) (Nat.le_refl _) (.slice aG (0 + ng) cG)
  have hoB := ownsRow_setCell_below (ownsRow_setCell_below (ownsRow_setCell_below HOB.out (a := ⟨w.heap.size + 1, 0, none⟩) hB13 (.slice aB (0 + nb) cB)) (a := ⟨w.heap.size + 1, 1, none⟩) hB13 (.int .i64 m.st)) (a := ⟨w.heap.size + 1, 2, none⟩) hB13 (.slice aG (0 + ng) cG)
  have hoG := ownsRow_setCell_below (ownsRow_setCell_below (ownsRow_setCell_below HOG.out (a := ⟨w.heap.size + 1, 0, none⟩) hB13 (.slice aB (0 + nb) cB)) (a := ⟨w.heap.size + 1, 1, none⟩) hB13 (.int .i64 m.st)) (a := ⟨w.heap.size + 1, 2, none⟩) hB13 (.slice aG (0 + ng) cG)
  simp only [Nat.zero_add, List.nil_append] at kz hbz hoB hoG
  generalize World.setCell (World.setCell (World.setCell _ _ _) _ _) _ _ = wz at *
  obtain ⟨r0, r1, r2, _⟩ := blkc3 kz
  refine bodyPost_ret (v := .agg #[.slice aB nb cB, .int .i64 m.st, .slice aG ng cG]) (by simp [results, Tryz.results15, go_sem, r0, r1, r2]) rfl ⟨aB, cB, aG, cG, rfl, HB1.out.trans (hbz.mono (by omega)), ER.of_owns HLB.out hoB, ER.of_owns HLG.out hoG⟩
/- Machines and limits: the program's checks. -/
theorem cm1_any (n : Int) (X nb cb : Nat) (ab : Option Addr) (w : World) (h : w.cell? ⟨X, 0, none⟩ = some (.slice ab nb cb)) (hX : X < w.heap.size) (hn : nb ≤ 8) :
    Calls Tryz.prog 129 #[.int .i64 n, .pointer (some ⟨X, 0, none⟩)] w fun e' w' => e' = .returned (.bool (isS nb n)) ∧ w = w' := by
 obtain ⟨p, hp, w1, w2, p1, p2⟩ := pow_wrap hn
 have n0 : (0 : Int) ≤ (nb : Int) := by omega
 have n1 : (nb : Int) ≤ 64 := by omega
 have n2 : ((nb : Int)).toNat = nb := by omega
 unfold isS
 rw [← hp]
 have HW := Lib.hid (fun w' => t_within_any n 0 (p - 1) w')
 clear hp
 generalize wi n 0 (p - 1) = b at *
 go_enter Tryz.func129, Tryz.ntmps129
 go_wp2_with fail
 refine (HW.out _).mono ?_
 rintro e5 w5 ⟨rfl, rfl⟩
 go_wp2
 go_ret
 exact ⟨rfl, rfl⟩
theorem loadE_any (s : Int) (w : World) : Calls Tryz.prog 95 #[.int .i64 s] w fun e' w' => e' = .returned (.int .i64 (loaE s)) ∧ w = w' := by
 have HS := Lib.hid (fun W => t_small_any s 1000 W (by omega) (by omega))
 unfold loaE
 generalize wi s (-1000) 1000 = b at *
 go_enter Tryz.func95, Tryz.ntmps95
 go_wp2_with fail
 refine (HS.out _).mono ?_
 rintro e5 w5 ⟨rfl, rfl⟩
 go_wp2_with fail
 refine (t_unless_any _ _ _).mono ?_
 rintro e6 w6 ⟨rfl, rfl⟩
 go_wp2
 go_ret
 exact ⟨rfl, rfl⟩
theorem cl1_any (n : Int) (w : World) : Calls Tryz.prog 110 #[.int .i64 n] w fun e' w' => e' = .returned (.bool (wi n 0 1000)) ∧ w = w' := by
 have HS := Lib.hid (fun W => t_within_any n 0 1000 W)
 generalize wi n 0 1000 = b at *
 go_enter Tryz.func110, Tryz.ntmps110
 go_wp2_with fail
 refine (HS.out _).mono ?_
 rintro e5 w5 ⟨rfl, rfl⟩
 go_wp2
 go_ret
 exact ⟨rfl, rfl⟩
theorem cl2_any (n : Int) (w : World) : Calls Tryz.prog 111 #[.int .i64 n] w fun e' w' => e' = .returned (.bool (wi n (-1000) 1000)) ∧ w = w' := by
 have HS := Lib.hid (fun W => t_small_any n 1000 W (by omega) (by omega))
 generalize wi n (-1000) 1000 = b at *
 go_enter Tryz.func111, Tryz.ntmps111
 go_wp2_with fail
 refine (HS.out _).mono ?_
 rintro e5 w5 ⟨rfl, rfl⟩
 go_wp2
 go_ret
 exact ⟨rfl, rfl⟩
theorem m_staE_any (x : Int) (nb cb ng cg : Nat) (ab ag : Option Addr) (s : Int) (w : World) (hn : nb ≤ 8) :
    Calls Tryz.prog 61 #[.agg #[.slice ab nb cb, .int .i64 x, .slice ag ng cg], .int .i64 s] w fun e' w' => e' = .returned (.int .i64 (staE nb s)) ∧ Below w.heap.size w w' := by
 obtain ⟨p, hp, w1, w2, p1, p2⟩ := pow_wrap hn
 have n0 : (0 : Int) ≤ (nb : Int) := by omega
 have n1 : (nb : Int) ≤ 64 := by omega
 have n2 : ((nb : Int)).toNat = nb := by omega
 unfold staE isS
 rw [← hp]
 have HW := Lib.hid (fun w' => t_within_any s 0 (p - 1) w')
 clear hp
 generalize wi s 0 (p - 1) = b at *
 go_enter Tryz.func61, Tryz.ntmps61
 go_wp2_with fail
 refine (HW.out _).mono ?_
 rintro e5 w5 ⟨rfl, rfl⟩
 go_wp2_with fail
 refine (t_unless_any _ _ _).mono ?_
 rintro e6 w6 ⟨rfl, rfl⟩
 go_wp2
 go_ret
 exact ⟨rfl, by (first|exact bwg|go_size)⟩
theorem m_conE_any (x : Int) (nb cb ng cg : Nat) (ab ag : Option Addr) (s : Int) (w : World) (hn : nb ≤ 9223372036854775807) :
    Calls Tryz.prog 65 #[.agg #[.slice ab nb cb, .int .i64 x, .slice ag ng cg], .int .i64 s] w fun e' w' => e' = .returned (.int .i64 (conE nb s)) ∧ Below w.heap.size w w' := by
 have w2 : IntKind.i64.wrap ((nb : Int) - 1) = (nb : Int) - 1 := by rw [IntKind.wrap_i64]; omega
 unfold conE
 have HW := Lib.hid (fun w' => t_within_any s 0 ((nb : Int) - 1) w')
 generalize wi s 0 ((nb : Int) - 1) = b at *
 go_enter Tryz.func65, Tryz.ntmps65
 go_wp2_with fail
 refine (HW.out _).mono ?_
 rintro e5 w5 ⟨rfl, rfl⟩
 go_wp2_with fail
 refine (t_unless_any _ _ _).mono ?_
 rintro e6 w6 ⟨rfl, rfl⟩
 go_wp2
 go_ret
 exact ⟨rfl, by (first|exact bwg|go_size)⟩
set_option maxHeartbeats 2000000 in
set_option maxRecDepth 100000 in
theorem checkLimits_any (l : Lim) (w : World) : Calls Tryz.prog 76 #[.agg #[.int .i64 l.volt, .int .i64 l.lo, .int .i64 l.hi, .int .i64 l.circ, .int .i64 l.brk, .int .i64 l.ret]] w fun e' w' => e' = .returned (.int .i64 (limE l)) ∧ Below w.heap.size w w' := by
 unfold limE
 obtain ⟨vo, lo, hi, ci, br, re⟩ := l
 simp only
 have H1 := Lib.hid (fun w' => cl1_any vo w')
 have H2 := Lib.hid (fun w' => cl2_any lo w')
 have H3 := Lib.hid (fun w' => cl2_any hi w')
 have H4 := Lib.hid (fun w' => cl1_any ci w')
 have H5 := Lib.hid (fun w' => cl1_any br w')
 have H6 := Lib.hid (fun w' => cl1_any re w')
 have HU := Lib.hid (fun (b : Bool) (e : Int) w' => t_unless_any b e w')
 generalize wi vo 0 1000 = b1 at *
 generalize wi lo (-1000) 1000 = b2 at *
 generalize wi hi (-1000) 1000 = b3 at *
 generalize wi ci 0 1000 = b4 at *
 generalize wi br 0 1000 = b5 at *
 generalize wi re 0 1000 = b6 at *
 obtain ⟨V, hV⟩ : ∃ V, V = firstErr [unl (b1 && b2 && b3) 2, unl (decide (lo ≤ hi)) 9, unl (b4 && b5 && b6) 2] := ⟨_, rfl⟩
 have HV := Lib.hid hV
 rw [← hV]
 clear hV
 go_enter Tryz.func76, Tryz.ntmps76
 go_wp2_with fail
 cases b1
 ·cases b4
  ·skip
   refine later_of_eq 44 (by kernel_rfl) (by kernel_rfl) ?_; simp only [List.take_succ_cons, List.take_zero, List.drop_succ_cons, List.drop_zero]; repeat go_big_quiet_step (first | with_reducible exact calls_later_same (H1.out _) | with_reducible exact calls_later_same (H2.out _) | with_reducible exact calls_later_same (H3.out _) | with_reducible exact calls_later_same (H4.out _) | with_reducible exact calls_later_same (H5.out _) | with_reducible exact calls_later_same (H6.out _) | with_reducible exact calls_later_same (HU.out _ _ _))
   refine wpQuiet_nil ?_; intro w5 hb5
   have HB5 := Lib.hid (show Below w.heap.size w w5 by (first|exact bwg|go_size))
   clear hb5
   go_wp2_with fail
   refine (t_first3 _ _ _ _ _ _ _ (by rfl) (by simp)).mono ?_
   rintro e8 w8 ⟨rfl, hw8⟩
   have HB8 := Lib.hid (show Below w.heap.size w w8 from HB5.out.trans ((show Below w5.heap.size w5 w8 by rw [← hw8]; (first|exact bwg|go_size)).mono HB5.out.size))
   clear hw8
   go_wp2
   go_ret
   exact ⟨ret_int (by rw [HV.out]; simp), HB8.out⟩
  ·cases b5
   ·skip
    refine later_of_eq 44 (by kernel_rfl) (by kernel_rfl) ?_; simp only [List.take_succ_cons, List.take_zero, List.drop_succ_cons, List.drop_zero]; repeat go_big_quiet_step (first | with_reducible exact calls_later_same (H1.out _) | with_reducible exact calls_later_same (H2.out _) | with_reducible exact calls_later_same (H3.out _) | with_reducible exact calls_later_same (H4.out _) | with_reducible exact calls_later_same (H5.out _) | with_reducible exact calls_later_same (H6.out _) | with_reducible exact calls_later_same (HU.out _ _ _))
    refine wpQuiet_nil ?_; intro w5 hb5
    have HB5 := Lib.hid (show Below w.heap.size w w5 by (first|exact bwg|go_size))
    clear hb5
    go_wp2_with fail
    refine (t_first3 _ _ _ _ _ _ _ (by rfl) (by simp)).mono ?_
    rintro e8 w8 ⟨rfl, hw8⟩
    have HB8 := Lib.hid (show Below w.heap.size w w8 from HB5.out.trans ((show Below w5.heap.size w5 w8 by rw [← hw8]; (first|exact bwg|go_size)).mono HB5.out.size))
    clear hw8
    go_wp2
    go_ret
    exact ⟨ret_int (by rw [HV.out]; simp), HB8.out⟩
   ·skip
    refine later_of_eq 44 (by kernel_rfl) (by kernel_rfl) ?_; simp only [List.take_succ_cons, List.take_zero, List.drop_succ_cons, List.drop_zero]; repeat go_big_quiet_step (first | with_reducible exact calls_later_same (H1.out _) | with_reducible exact calls_later_same (H2.out _) | with_reducible exact calls_later_same (H3.out _) | with_reducible exact calls_later_same (H4.out _) | with_reducible exact calls_later_same (H5.out _) | with_reducible exact calls_later_same (H6.out _) | with_reducible exact calls_later_same (HU.out _ _ _))
    refine wpQuiet_nil ?_; intro w5 hb5
    have HB5 := Lib.hid (show Below w.heap.size w w5 by (first|exact bwg|go_size))
    clear hb5
    go_wp2_with fail
    refine (t_first3 _ _ _ _ _ _ _ (by rfl) (by simp)).mono ?_
    rintro e8 w8 ⟨rfl, hw8⟩
    have HB8 := Lib.hid (show Below w.heap.size w w8 from HB5.out.trans ((show Below w5.heap.size w5 w8 by rw [← hw8]; (first|exact bwg|go_size)).mono HB5.out.size))
    clear hw8
    go_wp2
    go_ret
    exact ⟨ret_int (by rw [HV.out]; simp), HB8.out⟩
 ·cases b2
  ·cases b4
   ·skip
    refine later_of_eq 44 (by kernel_rfl) (by kernel_rfl) ?_; simp only [List.take_succ_cons, List.take_zero, List.drop_succ_cons, List.drop_zero]; repeat go_big_quiet_step (first | with_reducible exact calls_later_same (H1.out _) | with_reducible exact calls_later_same (H2.out _) | with_reducible exact calls_later_same (H3.out _) | with_reducible exact calls_later_same (H4.out _) | with_reducible exact calls_later_same (H5.out _) | with_reducible exact calls_later_same (H6.out _) | with_reducible exact calls_later_same (HU.out _ _ _))
    refine wpQuiet_nil ?_; intro w5 hb5
    have HB5 := Lib.hid (show Below w.heap.size w w5 by (first|exact bwg|go_size))
    clear hb5
    go_wp2_with fail
    refine (t_first3 _ _ _ _ _ _ _ (by rfl) (by simp)).mono ?_
    rintro e8 w8 ⟨rfl, hw8⟩
    have HB8 := Lib.hid (show Below w.heap.size w w8 from HB5.out.trans ((show Below w5.heap.size w5 w8 by rw [← hw8]; (first|exact bwg|go_size)).mono HB5.out.size))
    clear hw8
    go_wp2
    go_ret
    exact ⟨ret_int (by rw [HV.out]; simp), HB8.out⟩
   ·cases b5
    ·skip
     refine later_of_eq 44 (by kernel_rfl) (by kernel_rfl) ?_; simp only [List.take_succ_cons, List.take_zero, List.drop_succ_cons, List.drop_zero]; repeat go_big_quiet_step (first | with_reducible exact calls_later_same (H1.out _) | with_reducible exact calls_later_same (H2.out _) | with_reducible exact calls_later_same (H3.out _) | with_reducible exact calls_later_same (H4.out _) | with_reducible exact calls_later_same (H5.out _) | with_reducible exact calls_later_same (H6.out _) | with_reducible exact calls_later_same (HU.out _ _ _))
     refine wpQuiet_nil ?_; intro w5 hb5
     have HB5 := Lib.hid (show Below w.heap.size w w5 by (first|exact bwg|go_size))
     clear hb5
     go_wp2_with fail
     refine (t_first3 _ _ _ _ _ _ _ (by rfl) (by simp)).mono ?_
     rintro e8 w8 ⟨rfl, hw8⟩
     have HB8 := Lib.hid (show Below w.heap.size w w8 from HB5.out.trans ((show Below w5.heap.size w5 w8 by rw [← hw8]; (first|exact bwg|go_size)).mono HB5.out.size))
     clear hw8
     go_wp2
     go_ret
     exact ⟨ret_int (by rw [HV.out]; simp), HB8.out⟩
    ·skip
     refine later_of_eq 44 (by kernel_rfl) (by kernel_rfl) ?_; simp only [List.take_succ_cons, List.take_zero, List.drop_succ_cons, List.drop_zero]; repeat go_big_quiet_step (first | with_reducible exact calls_later_same (H1.out _) | with_reducible exact calls_later_same (H2.out _) | with_reducible exact calls_later_same (H3.out _) | with_reducible exact calls_later_same (H4.out _) | with_reducible exact calls_later_same (H5.out _) | with_reducible exact calls_later_same (H6.out _) | with_reducible exact calls_later_same (HU.out _ _ _))
     refine wpQuiet_nil ?_; intro w5 hb5
     have HB5 := Lib.hid (show Below w.heap.size w w5 by (first|exact bwg|go_size))
     clear hb5
     go_wp2_with fail
     refine (t_first3 _ _ _ _ _ _ _ (by rfl) (by simp)).mono ?_
     rintro e8 w8 ⟨rfl, hw8⟩
     have HB8 := Lib.hid (show Below w.heap.size w w8 from HB5.out.trans ((show Below w5.heap.size w5 w8 by rw [← hw8]; (first|exact bwg|go_size)).mono HB5.out.size))
     clear hw8
     go_wp2
     go_ret
     exact ⟨ret_int (by rw [HV.out]; simp), HB8.out⟩
  ·cases b4
   ·skip
    refine later_of_eq 44 (by kernel_rfl) (by kernel_rfl) ?_; simp only [List.take_succ_cons, List.take_zero, List.drop_succ_cons, List.drop_zero]; repeat go_big_quiet_step (first | with_reducible exact calls_later_same (H1.out _) | with_reducible exact calls_later_same (H2.out _) | with_reducible exact calls_later_same (H3.out _) | with_reducible exact calls_later_same (H4.out _) | with_reducible exact calls_later_same (H5.out _) | with_reducible exact calls_later_same (H6.out _) | with_reducible exact calls_later_same (HU.out _ _ _))
    refine wpQuiet_nil ?_; intro w5 hb5
    have HB5 := Lib.hid (show Below w.heap.size w w5 by (first|exact bwg|go_size))
    clear hb5
    go_wp2_with fail
    refine (t_first3 _ _ _ _ _ _ _ (by rfl) (by simp)).mono ?_
    rintro e8 w8 ⟨rfl, hw8⟩
    have HB8 := Lib.hid (show Below w.heap.size w w8 from HB5.out.trans ((show Below w5.heap.size w5 w8 by rw [← hw8]; (first|exact bwg|go_size)).mono HB5.out.size))
    clear hw8
    go_wp2
    go_ret
    exact ⟨ret_int (by rw [HV.out]; simp), HB8.out⟩
   ·cases b5
    ·skip
     refine later_of_eq 44 (by kernel_rfl) (by kernel_rfl) ?_; simp only [List.take_succ_cons, List.take_zero, List.drop_succ_cons, List.drop_zero]; repeat go_big_quiet_step (first | with_reducible exact calls_later_same (H1.out _) | with_reducible exact calls_later_same (H2.out _) | with_reducible exact calls_later_same (H3.out _) | with_reducible exact calls_later_same (H4.out _) | with_reducible exact calls_later_same (H5.out _) | with_reducible exact calls_later_same (H6.out _) | with_reducible exact calls_later_same (HU.out _ _ _))
     refine wpQuiet_nil ?_; intro w5 hb5
     have HB5 := Lib.hid (show Below w.heap.size w w5 by (first|exact bwg|go_size))
     clear hb5
     go_wp2_with fail
     refine (t_first3 _ _ _ _ _ _ _ (by rfl) (by simp)).mono ?_
     rintro e8 w8 ⟨rfl, hw8⟩
     have HB8 := Lib.hid (show Below w.heap.size w w8 from HB5.out.trans ((show Below w5.heap.size w5 w8 by rw [← hw8]; (first|exact bwg|go_size)).mono HB5.out.size))
     clear hw8
     go_wp2
     go_ret
     exact ⟨ret_int (by rw [HV.out]; simp), HB8.out⟩
    ·skip
     refine later_of_eq 44 (by kernel_rfl) (by kernel_rfl) ?_; simp only [List.take_succ_cons, List.take_zero, List.drop_succ_cons, List.drop_zero]; repeat go_big_quiet_step (first | with_reducible exact calls_later_same (H1.out _) | with_reducible exact calls_later_same (H2.out _) | with_reducible exact calls_later_same (H3.out _) | with_reducible exact calls_later_same (H4.out _) | with_reducible exact calls_later_same (H5.out _) | with_reducible exact calls_later_same (H6.out _) | with_reducible exact calls_later_same (HU.out _ _ _))
     refine wpQuiet_nil ?_; intro w5 hb5
     have HB5 := Lib.hid (show Below w.heap.size w w5 by (first|exact bwg|go_size))
     clear hb5
     go_wp2_with fail
     refine (t_first3 _ _ _ _ _ _ _ (by rfl) (by simp)).mono ?_
     rintro e8 w8 ⟨rfl, hw8⟩
     have HB8 := Lib.hid (show Below w.heap.size w w8 from HB5.out.trans ((show Below w5.heap.size w5 w8 by rw [← hw8]; (first|exact bwg|go_size)).mono HB5.out.size))
     clear hw8
     go_wp2
     go_ret
     exact ⟨ret_int (by rw [HV.out]; simp), HB8.out⟩
end Go.Proofs.YtdjinmieogpgcaaGreat
