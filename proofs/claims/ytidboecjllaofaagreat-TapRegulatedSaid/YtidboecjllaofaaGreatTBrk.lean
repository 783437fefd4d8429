import Derived.Test.YtidboecjllaofaaGreatMK
import Derived.Test.YtidboecjllaofaaGreatTCirP
import Derived.Test.YtidboecjllaofaaGreatTCurr
/- What a contact breaks: the program. -/
namespace Go.Proofs.YtidboecjllaofaaGreat
open Go.RowKit Go.Shelf
set_option linter.unusedVariables false
set_option linter.unusedSimpArgs false
set_option maxHeartbeats 4000000 in
set_option maxRecDepth 100000 in
theorem breaks_any (m : Mac) (l : Lim) (s i : Nat) (load : Int) (ab ag : Option Addr) (nb cb ng cg : Nat) (w : World) (hb : BrR w ab nb m.br) (he : ElV m l s load) (he2 : ElV m l (trn s i) load) (hi : i < nb) :
    Calls Tryz.prog 138 #[.agg #[.slice ab nb cb, .int .i64 m.st, .slice ag ng cg, .int .i64 l.volt, .int .i64 l.lo, .int .i64 l.hi, .int .i64 l.circ, .int .i64 l.brk, .int .i64 l.ret], .int .i64 (s : Int), .int .i64 (i : Int), .int .i64 load] w fun e' w' => e' = .returned (.agg #[.int .i64 (brkC m l s i load).1, .int .i64 (brkC m l s i load).2, .int .i64 (brkV m l s i load).1, .int .i64 (brkV m l s i load).2]) ∧ Below w.heap.size w w' := by
  have hlen := hb.len
  have hn6 : nb ≤ 6 := by rw [← hlen]; exact he.hm.n1
  have hs64 := he.s64
  have HTU := Lib.hid (fun (W : World) => (turned_any s i W hs64 (by omega)).mono (fun e w' h => show e = .returned (.int .i64 ((trn s i : Nat) : Int)) ∧ Below W.heap.size W w' from ⟨h.1, h.2 ▸ Below.refl _ _⟩))
  have HOU0 := Lib.hid (fun (W : World) (hbw : Below w.heap.size w W) => output_any m l (trn s i) load ab ag nb cb ng cg W he.hm (hb.below hbw) he.hl he.hd (by rw [← hlen]; exact he2.hs) he2.h0)
  have HCR0 := Lib.hid (fun (W : World) (hbw : Below w.heap.size w W) => currents_any m l s load ab ag nb cb ng cg W he.hm (hb.below hbw) he.hl he.hd (by rw [← hlen]; exact he.hs) he.h0)
  have HV10 := Lib.hid (fun (W : World) (hbw : Below w.heap.size w W) => voltage_any m l i ab ag nb cb ng cg W he.hm (hb.below hbw) he.hl hi)
  have hcb := curT_bd he (k := i) (by rw [hlen]; exact hi)
  have hvb := he2.vo
  obtain ⟨o1, o2⟩ := ovr_bd he.hm he.hl (show i < m.br.length by rw [hlen]; exact hi) hvb
  have hlw := low_props (a := volA m l i * (outT m l (trn s i) load).2 - (outT m l (trn s i) load).1 * 1) (b := 1 * (outT m l (trn s i) load).2) (by rw [Int.one_mul]; exact hvb.1)
  have HMI := Lib.hid (fun (W : World) => t_minus_any (volA m l i) 1 (outT m l (trn s i) load).1 (outT m l (trn s i) load).2 W (by omega) (by unfold VoB at hvb; omega) (by rw [Int.one_mul]; exact hvb.1) (by unfold VoB at hvb; omega))
  obtain ⟨BC, hBC⟩ : ∃ x, x = brkC m l s i load := ⟨_, rfl⟩
  obtain ⟨BV, hBV⟩ : ∃ x, x = brkV m l s i load := ⟨_, rfl⟩
  obtain ⟨BW, hBW⟩ : ∃ x, x = brkW m l (trn s i) i load := ⟨_, rfl⟩
  have hBW2 : BW = low (volA m l i * (outT m l (trn s i) load).2 - (outT m l (trn s i) load).1 * 1) (1 * (outT m l (trn s i) load).2) := hBW
  rw [← hBW2] at HMI hlw
  unfold ovr at o1
  rw [← hBC, ← hBV]
  have HPG := Lib.hid (pcells_get (curT m l s load) i (by rw [curT_len, hlen]; exact hi))
  have HBC : BC = (sz ((curT m l s load).getD i (0, 0)).1, ((curT m l s load).getD i (0, 0)).2) := hBC
  have HBV : BV = (sz BW.1, BW.2) := by rw [hBV, hBW]; rfl
  have HS1 := Lib.hid (fun (W : World) => t_size_any ((curT m l s load).getD i (0, 0)).1 ((curT m l s load).getD i (0, 0)).2 W (by omega) (by omega))
  have HS2 := Lib.hid (fun (W : World) => t_size_any BW.1 BW.2 W (by unfold VoB at hvb; omega) (by unfold VoB at hvb; omega))
  generalize curT m l s load = CT at *
  generalize CT.getD i (0, 0) = CC at *
  generalize outT m l (trn s i) load = OT at *
  have i0 : (0 : Int) ≤ (i : Int) := by omega
  have i1 : (i : Int) < (nb : Int) := by omega
  obtain ⟨vo, lo, hi, ci, br, re⟩ := l
  obtain ⟨st, hst⟩ : ∃ x, x = m.st := ⟨_, rfl⟩
  rw [← hst] at HCR0 HOU0 HV10 ⊢
  generalize volA m ⟨vo, lo, hi, ci, br, re⟩ i = VA at *
  obtain ⟨on, od⟩ := OT
  obtain ⟨cn, cd⟩ := CC
  obtain ⟨wn, wd⟩ := BW
  subst HBC HBV
  simp only at HCR0 HOU0 HV10 HS1 HS2 HMI HPG ⊢
  clear hb he he2 hst hlen hcb hvb o1 o2 hlw hBC hBV hBW hBW2
  go_enter Tryz.func138, Tryz.ntmps138
  go_wp2_with fail
  obtain ⟨w2, hW2⟩ : ∃ w2, w2 = (w.alloc (Obj.cells #[.slice ab nb cb, .int .i64 st, .slice ag ng cg, .int .i64 vo, .int .i64 lo, .int .i64 hi, .int .i64 ci, .int .i64 br, .int .i64 re] 164)).alloc (Obj.cells #[.int .i64 0, .int .i64 0, .int .i64 0, .int .i64 0] 106) := ⟨_, rfl⟩
  rw [← hW2]
  have hb2 : Below w.heap.size w w2 := by rw [hW2]; (repeat' (first | (with_reducible exact Below.refl _ _) | (with_reducible assumption) | (with_reducible refine Below.drewN ?_ _) | (with_reducible refine Below.alloc ?_ ?_ _) | (with_reducible refine Below.drew ?_) | (with_reducible refine Below.setCell ?_ ?_ _) | (with_reducible refine Below.step (by assumption) ?_ ?_) | (with_reducible exact And.left (by assumption)) | go_size))
  have k4 : BlkR w2 w.heap.size (.cells #[.slice ab nb cb, .int .i64 st, .slice ag ng cg, .int .i64 vo, .int .i64 lo, .int .i64 hi, .int .i64 ci, .int .i64 br, .int .i64 re] 164) := by
    show w2.heap[w.heap.size]? = _
    rw [hW2, Below.heap_alloc _ _ _ (by simp)]; exact heap_alloc_new _ _
  have k8 : BlkR w2 (w.heap.size + 1) (.cells #[.int .i64 0, .int .i64 0, .int .i64 0, .int .i64 0] 106) := by
    show w2.heap[w.heap.size + 1]? = _
    rw [hW2]
    have := heap_alloc_new (w.alloc (Obj.cells #[.slice ab nb cb, .int .i64 st, .slice ag ng cg, .int .i64 vo, .int .i64 lo, .int .i64 hi, .int .i64 ci, .int .i64 br, .int .i64 re] 164)) (Obj.cells #[.int .i64 0, .int .i64 0, .int .i64 0, .int .i64 0] 106)
    rwa [World.size_alloc] at this
  obtain ⟨X4, hX4⟩ : ∃ X, X = w.heap.size := ⟨_, rfl⟩
  obtain ⟨X8, hX8⟩ : ∃ X, X = w.heap.size + 1 := ⟨_, rfl⟩
  rw [← hX8] at k8
  rw [← hX4] at k4
  simp only [← hX8]
  simp only [← hX4]
  have l48 : X4 ≠ X8 := by omega
  have hw8 : w.heap.size ≤ X8 := by omega
  have HOU := Lib.hid (fun (W : World) (hbw : Below w2.heap.size w2 W) => HOU0.out W (hb2.trans (hbw.mono hb2.size)))
  have c4 := blk_cell k4 (i := 0) rfl
  have c4_1 := blk_cell k4 (i := 1) rfl
  have c4_2 := blk_cell k4 (i := 2) rfl
  have c4_3 := blk_cell k4 (i := 3) rfl
  have c4_4 := blk_cell k4 (i := 4) rfl
  have c4_5 := blk_cell k4 (i := 5) rfl
  have c4_6 := blk_cell k4 (i := 6) rfl
  have c4_7 := blk_cell k4 (i := 7) rfl
  have c4_8 := blk_cell k4 (i := 8) rfl
  have l4 := k4.lt
  have K4 := Lib.hid k4
  have K8 := Lib.hid k8
  have HB2 := Lib.hid hb2
  clear hW2 hX4 hX8 k4 k8 hb2
  go_cut [9] from 10 to 15 (fun v9 wx => ∃ X9 : Nat, v9 = .pointer (some ⟨X9, 0, none⟩) ∧ Hid (BlkR wx X9 (.cells #[.int .i64 on, .int .i64 od] 58)) ∧ Hid (w2.heap.size ≤ X9) ∧ Hid (Below w2.heap.size w2 wx))
  case first =>
    have HN := Lib.hid (Below.refl w2.heap.size w2).drew
    refine wp_region_laterT (B := w2.heap.size) (.head 0 (.head 1 (.head 2 (.head 4 (.two 3 (.two 5 (.one 6 (.one 7 .done)) 6 (.one 5 (.one 7 .done))) 6 (.one 3 (.one 5 (.one 7 .done)))))))) (by kernel_rfl) (by kernel_rfl) ?_
    repeat (refine tree_head rfl ?_; (show wpQuiet _ _ _ _ (_ :: _) _; go_big_quiet_step (fail)); refine wpQuiet_nil ?_)
    refine tree_two rfl rfl ?_ ?_
    · go_wp2_with fail
      refine (HTU.out _).mono ?_
      rintro e11 wx1 ⟨rfl, hbx⟩
      have hzx := hbx.size
      have HN := Lib.hid (HN.out.trans (hbx.mono HN.out.size))
      clear hbx
      go_wp2_with fail
      refine tailL_mk HN.out ?_
      repeat (refine tree_head rfl ?_; (show wpQuiet _ _ _ _ (_ :: _) _; go_big_quiet_step (fail)); refine wpQuiet_nil ?_)
      refine tree_two rfl rfl ?_ ?_
      · go_wp2_with fail
        refine (HOU.out _ HN.out).mono ?_
        rintro e11 wx2 ⟨rfl, hbx⟩
        have hzx := hbx.size
        have HN := Lib.hid (HN.out.trans (hbx.mono HN.out.size))
        clear hbx
        go_wp2_with fail
        refine tailL_mk HN.out ?_
        repeat (refine tree_head rfl ?_; (show wpQuiet _ _ _ _ (_ :: _) _; go_big_quiet_step (fail)); refine wpQuiet_nil ?_)
        refine tree_one rfl ?_
        go_wp2_with fail
        obtain ⟨X9, hX9⟩ : ∃ X, X = wx2.heap.size := ⟨_, rfl⟩
        have hNX : w2.heap.size ≤ X9 := by rw [hX9]; exact HN.out.size
        have hx9 : (wx2.alloc (Obj.cells #[.int .i64 0, .int .i64 0] 58)).heap[X9]? = some (.cells #[.int .i64 0, .int .i64 0] 58) := by rw [hX9]; exact heap_alloc_new _ _
        have l9 : X9 < (wx2.alloc (Obj.cells #[.int .i64 0, .int .i64 0] 58)).heap.size := by rw [hX9]; simp
        have hs9 : (wx2.alloc (Obj.cells #[.int .i64 0, .int .i64 0] 58)).heap.size = wx2.heap.size + 1 := by simp
        have hbx : Below wx2.heap.size wx2 (wx2.alloc (Obj.cells #[.int .i64 0, .int .i64 0] 58)) := by (repeat' (first | (with_reducible exact Below.refl _ _) | (with_reducible assumption) | (with_reducible refine Below.drewN ?_ _) | (with_reducible refine Below.alloc ?_ ?_ _) | (with_reducible refine Below.drew ?_) | (with_reducible refine Below.setCell ?_ ?_ _) | (with_reducible refine Below.step (by assumption) ?_ ?_) | (with_reducible exact And.left (by assumption)) | go_size))
        try simp only [← hX9]
        generalize (wx2.alloc (Obj.cells #[.int .i64 0, .int .i64 0] 58)) = wx3 at *
        have HX9 := Lib.hid (And.intro hX9 hs9)
        have HN := Lib.hid (HN.out.trans (hbx.mono HN.out.size))
        clear hbx hX9 hs9
        refine tailL_mk HN.out ?_
        repeat (refine tree_head rfl ?_; (show wpQuiet _ _ _ _ (_ :: _) _; go_big_quiet_step (fail)); refine wpQuiet_nil ?_)
        refine tree_one rfl ?_
        have c90 := cell_of_row _ _ 0 _ _ _ hx9
        have f90 := frozen_of_row _ _ 0 _ _ hx9
        have c91 := cell_of_row _ _ 1 _ _ _ hx9
        have f91 := frozen_of_row _ _ 1 _ _ hx9
        simp only [List.getElem?_toArray, List.getElem?_cons_zero, List.getElem?_cons_succ] at c90 c91
        go_wp2_with fail
        have HN := Lib.hid (show Below w2.heap.size w2 ((wx3.setCell ⟨X9, 0, none⟩ (.int .i64 on)).setCell ⟨X9, 1, none⟩ (.int .i64 od)) from Below.setCell (Below.setCell (HN.out) hNX _) hNX _)
        have hxo := hx9
        have hx9 : ((wx3.setCell ⟨X9, 0, none⟩ (.int .i64 on)).setCell ⟨X9, 1, none⟩ (.int .i64 od)).heap[X9]? = some (.cells #[.int .i64 on, .int .i64 od] 58) := blk_set (blk_set (hx9) 0 (.int .i64 on)) 1 (.int .i64 od)
        refine tailL_mk HN.out ?_
        repeat (refine tree_head rfl ?_; (show wpQuiet _ _ _ _ (_ :: _) _; go_big_quiet_step (fail)); refine wpQuiet_nil ?_)
        refine tree_done ?_
        go_wp2_with fail
        go_meet
        case rel => exact ⟨X9, rfl, Lib.hid hx9, Lib.hid hNX, HN⟩
      · go_wp2_with fail
        obtain ⟨X9, hX9⟩ : ∃ X, X = wx1.heap.size := ⟨_, rfl⟩
        have hNX : w2.heap.size ≤ X9 := by rw [hX9]; exact HN.out.size
        have hx9 : (wx1.alloc (Obj.cells #[.int .i64 0, .int .i64 0] 58)).heap[X9]? = some (.cells #[.int .i64 0, .int .i64 0] 58) := by rw [hX9]; exact heap_alloc_new _ _
        have l9 : X9 < (wx1.alloc (Obj.cells #[.int .i64 0, .int .i64 0] 58)).heap.size := by rw [hX9]; simp
        have hs9 : (wx1.alloc (Obj.cells #[.int .i64 0, .int .i64 0] 58)).heap.size = wx1.heap.size + 1 := by simp
        have hbx : Below wx1.heap.size wx1 (wx1.alloc (Obj.cells #[.int .i64 0, .int .i64 0] 58)) := by (repeat' (first | (with_reducible exact Below.refl _ _) | (with_reducible assumption) | (with_reducible refine Below.drewN ?_ _) | (with_reducible refine Below.alloc ?_ ?_ _) | (with_reducible refine Below.drew ?_) | (with_reducible refine Below.setCell ?_ ?_ _) | (with_reducible refine Below.step (by assumption) ?_ ?_) | (with_reducible exact And.left (by assumption)) | go_size))
        try simp only [← hX9]
        generalize (wx1.alloc (Obj.cells #[.int .i64 0, .int .i64 0] 58)) = wx5 at *
        have HX9 := Lib.hid (And.intro hX9 hs9)
        have HN := Lib.hid (HN.out.trans (hbx.mono HN.out.size))
        clear hbx hX9 hs9
        refine tailL_mk HN.out ?_
        repeat (refine tree_head rfl ?_; (show wpQuiet _ _ _ _ (_ :: _) _; go_big_quiet_step (fail)); refine wpQuiet_nil ?_)
        refine tree_one rfl ?_
        go_wp2_with fail
        refine (HOU.out _ HN.out).mono ?_
        rintro e11 wx6 ⟨rfl, hbx⟩
        have hzx := hbx.size
        have HN := Lib.hid (HN.out.trans (hbx.mono HN.out.size))
        have hx9 := (hbx.block X9 l9).trans hx9
        have l9 := Nat.lt_of_lt_of_le l9 hbx.size
        clear hbx
        go_wp2_with fail
        refine tailL_mk HN.out ?_
        repeat (refine tree_head rfl ?_; (show wpQuiet _ _ _ _ (_ :: _) _; go_big_quiet_step (fail)); refine wpQuiet_nil ?_)
        refine tree_one rfl ?_
        have c90 := cell_of_row _ _ 0 _ _ _ hx9
        have f90 := frozen_of_row _ _ 0 _ _ hx9
        have c91 := cell_of_row _ _ 1 _ _ _ hx9
        have f91 := frozen_of_row _ _ 1 _ _ hx9
        simp only [List.getElem?_toArray, List.getElem?_cons_zero, List.getElem?_cons_succ] at c90 c91
        go_wp2_with fail
        have HN := Lib.hid (show Below w2.heap.size w2 ((wx6.setCell ⟨X9, 0, none⟩ (.int .i64 on)).setCell ⟨X9, 1, none⟩ (.int .i64 od)) from Below.setCell (Below.setCell (HN.out) hNX _) hNX _)
        have hxo := hx9
        have hx9 : ((wx6.setCell ⟨X9, 0, none⟩ (.int .i64 on)).setCell ⟨X9, 1, none⟩ (.int .i64 od)).heap[X9]? = some (.cells #[.int .i64 on, .int .i64 od] 58) := blk_set (blk_set (hx9) 0 (.int .i64 on)) 1 (.int .i64 od)
        refine tailL_mk HN.out ?_
        repeat (refine tree_head rfl ?_; (show wpQuiet _ _ _ _ (_ :: _) _; go_big_quiet_step (fail)); refine wpQuiet_nil ?_)
        refine tree_done ?_
        go_wp2_with fail
        go_meet
        case rel => exact ⟨X9, rfl, Lib.hid hx9, Lib.hid hNX, HN⟩
    · go_wp2_with fail
      obtain ⟨X9, hX9⟩ : ∃ X, X = w2.heap.size := ⟨_, rfl⟩
      have hNX : w2.heap.size ≤ X9 := by rw [hX9]; exact HN.out.size
      have hx9 : (w2.alloc (Obj.cells #[.int .i64 0, .int .i64 0] 58)).drew.heap[X9]? = some (.cells #[.int .i64 0, .int .i64 0] 58) := by rw [hX9]; exact heap_alloc_new _ _
      have l9 : X9 < (w2.alloc (Obj.cells #[.int .i64 0, .int .i64 0] 58)).drew.heap.size := by rw [hX9]; simp
      have hs9 : (w2.alloc (Obj.cells #[.int .i64 0, .int .i64 0] 58)).drew.heap.size = w2.heap.size + 1 := by simp
      have hbx : Below w2.heap.size w2 (w2.alloc (Obj.cells #[.int .i64 0, .int .i64 0] 58)).drew := by (repeat' (first | (with_reducible exact Below.refl _ _) | (with_reducible assumption) | (with_reducible refine Below.drewN ?_ _) | (with_reducible refine Below.alloc ?_ ?_ _) | (with_reducible refine Below.drew ?_) | (with_reducible refine Below.setCell ?_ ?_ _) | (with_reducible refine Below.step (by assumption) ?_ ?_) | (with_reducible exact And.left (by assumption)) | go_size))
      try simp only [← hX9]
      generalize (w2.alloc (Obj.cells #[.int .i64 0, .int .i64 0] 58)).drew = wx8 at *
      have HX9 := Lib.hid (And.intro hX9 hs9)
      have HN := Lib.hid hbx
      clear hbx hX9 hs9
      refine tailL_mk HN.out ?_
      repeat (refine tree_head rfl ?_; (show wpQuiet _ _ _ _ (_ :: _) _; go_big_quiet_step (fail)); refine wpQuiet_nil ?_)
      refine tree_one rfl ?_
      go_wp2_with fail
      refine (HTU.out _).mono ?_
      rintro e11 wx9 ⟨rfl, hbx⟩
      have hzx := hbx.size
      have HN := Lib.hid (HN.out.trans (hbx.mono HN.out.size))
      have hx9 := (hbx.block X9 l9).trans hx9
      have l9 := Nat.lt_of_lt_of_le l9 hbx.size
      clear hbx
      go_wp2_with fail
      refine tailL_mk HN.out ?_
      repeat (refine tree_head rfl ?_; (show wpQuiet _ _ _ _ (_ :: _) _; go_big_quiet_step (fail)); refine wpQuiet_nil ?_)
      refine tree_one rfl ?_
      go_wp2_with fail
      refine (HOU.out _ HN.out).mono ?_
      rintro e11 wx10 ⟨rfl, hbx⟩
      have hzx := hbx.size
      have HN := Lib.hid (HN.out.trans (hbx.mono HN.out.size))
      have hx9 := (hbx.block X9 l9).trans hx9
      have l9 := Nat.lt_of_lt_of_le l9 hbx.size
      clear hbx
      go_wp2_with fail
      refine tailL_mk HN.out ?_
      repeat (refine tree_head rfl ?_; (show wpQuiet _ _ _ _ (_ :: _) _; go_big_quiet_step (fail)); refine wpQuiet_nil ?_)
      refine tree_one rfl ?_
      have c90 := cell_of_row _ _ 0 _ _ _ hx9
      have f90 := frozen_of_row _ _ 0 _ _ hx9
      have c91 := cell_of_row _ _ 1 _ _ _ hx9
      have f91 := frozen_of_row _ _ 1 _ _ hx9
      simp only [List.getElem?_toArray, List.getElem?_cons_zero, List.getElem?_cons_succ] at c90 c91
      go_wp2_with fail
      have HN := Lib.hid (show Below w2.heap.size w2 ((wx10.setCell ⟨X9, 0, none⟩ (.int .i64 on)).setCell ⟨X9, 1, none⟩ (.int .i64 od)) from Below.setCell (Below.setCell (HN.out) hNX _) hNX _)
      have hxo := hx9
      have hx9 : ((wx10.setCell ⟨X9, 0, none⟩ (.int .i64 on)).setCell ⟨X9, 1, none⟩ (.int .i64 od)).heap[X9]? = some (.cells #[.int .i64 on, .int .i64 od] 58) := blk_set (blk_set (hx9) 0 (.int .i64 on)) 1 (.int .i64 od)
      refine tailL_mk HN.out ?_
      repeat (refine tree_head rfl ?_; (show wpQuiet _ _ _ _ (_ :: _) _; go_big_quiet_step (fail)); refine wpQuiet_nil ?_)
      refine tree_done ?_
      go_wp2_with fail
      go_meet
      case rel => exact ⟨X9, rfl, Lib.hid hx9, Lib.hid hNX, HN⟩
  case rest =>
    obtain ⟨w3, rfl⟩ : ∃ w', w' = wc := ⟨wc, rfl⟩
    obtain ⟨X9, rfl, K9, hX9, HN2⟩ := hcut
    have hb3 := HB2.out.trans (HN2.out.mono HB2.out.size)
    have HCR := Lib.hid (fun (W : World) (hbw : Below w3.heap.size w3 W) => HCR0.out W (hb3.trans (hbw.mono hb3.size)))
    have HV1 := Lib.hid (fun (W : World) (hbw : Below w3.heap.size w3 W) => HV10.out W (hb3.trans (hbw.mono hb3.size)))
    have n89 : X8 ≠ X9 := by have := K8.out.lt; have := hX9.out; omega
    have K4 := Lib.hid (K4.out.below HN2.out)
    have K8 := Lib.hid (K8.out.below HN2.out)
    have HB3 := Lib.hid hb3
    have c4 := blk_cell K4.out (i := 0) rfl
    have c4_1 := blk_cell K4.out (i := 1) rfl
    have c4_2 := blk_cell K4.out (i := 2) rfl
    have c4_3 := blk_cell K4.out (i := 3) rfl
    have c4_4 := blk_cell K4.out (i := 4) rfl
    have c4_5 := blk_cell K4.out (i := 5) rfl
    have c4_6 := blk_cell K4.out (i := 6) rfl
    have c4_7 := blk_cell K4.out (i := 7) rfl
    have c4_8 := blk_cell K4.out (i := 8) rfl
    have c9 := blk_cell K9.out (i := 0) rfl
    have c9_1 := blk_cell K9.out (i := 1) rfl
    have l4 := K4.out.lt
    have l9 := K9.out.lt
    have HX := Lib.hid (show w3.heap[X8]? = _ from K8.out)
    clear hb3 HN2 hX9 HOU HOU0 HTU
    go_wp2_with fail
    have HN := Lib.hid (Below.refl w3.heap.size w3).drew
    refine wp_region_laterY (B := w3.heap.size) [0, 1, 2, 4, 8, 9, 12] [3, 5, 6, 7, 10, 11, 13, 14, 15] [16] (by kernel_rfl) (by kernel_rfl) ?_; simp only [List.filterMap_cons, List.filterMap_nil, List.getElem?_cons_zero, List.getElem?_cons_succ]; repeat (show wpQuiet _ _ _ _ (_ :: _) _; go_big_quiet_step (fail))
    refine wpQuiet_nil ?_
    have HX := Lib.hid (blk_below HX.out (Below.refl _ _).drew)
    refine tailY_cons ?_
    go_wp2_with fail
    refine (HCR.out _ HN.out).mono ?_
    rintro e11 p1 ⟨g, rfl, hg, hgr, hbx⟩
    have HG := Lib.hid (show BlkR p1 g (.cells (pcells CT).toArray 58) from hgr)
    clear hg hgr
    have hzx := hbx.size
    have HN := Lib.hid (HN.out.trans (hbx.mono HN.out.size))
    have HX := Lib.hid (blk_below HX.out hbx)
    clear hbx
    go_wp2_with fail
    refine tailL_mk HN.out ?_
    refine tailY_cons ?_
    go_wp2_with fail
    have lg := HG.out.lt
    have cg0 := cell_of_row _ _ (i * 2) _ _ _ HG.out
    have cg1 := cell_of_row _ _ (i * 2 + 1) _ _ _ HG.out
    rw [List.getElem?_toArray] at cg0 cg1
    rw [HPG.out.1] at cg0
    rw [HPG.out.2] at cg1
    go_wp2_with fail
    refine tailL_mk HN.out ?_
    refine tailY_cons ?_
    go_wp2_with fail
    refine tailL_mk HN.out ?_
    refine tailY_cons ?_
    go_wp2_with fail
    clear cg0 cg1 lg
    refine (HS1.out _).mono ?_
    rintro e11 p2 ⟨rfl, hbx⟩
    have hzx := hbx.size
    have HN := Lib.hid (HN.out.trans (hbx.mono HN.out.size))
    have HG := Lib.hid (HG.out.below hbx)
    have HX := Lib.hid (blk_below HX.out hbx)
    clear hbx
    go_wp2_with fail
    refine tailL_mk HN.out ?_
    refine tailY_cons ?_
    go_wp2_with fail
    refine (HV1.out _ HN.out).mono ?_
    rintro e11 p3 ⟨rfl, hbx⟩
    have hzx := hbx.size
    have HN := Lib.hid (HN.out.trans (hbx.mono HN.out.size))
    have HG := Lib.hid (HG.out.below hbx)
    have HX := Lib.hid (blk_below HX.out hbx)
    clear hbx
    go_wp2_with fail
    refine tailL_mk HN.out ?_
    refine tailY_cons ?_
    go_wp2_with fail
    refine (t_whole_any _ _).mono ?_
    rintro e11 p4 ⟨rfl, hbx⟩
    have hzx := hbx.size
    have HN := Lib.hid (HN.out.trans (hbx.mono HN.out.size))
    have HG := Lib.hid (HG.out.below hbx)
    have HX := Lib.hid (blk_below HX.out hbx)
    clear hbx
    go_wp2_with fail
    refine tailL_mk HN.out ?_
    refine tailY_cons ?_
    go_wp2_with fail
    refine (HMI.out _).mono ?_
    rintro e11 p5 ⟨rfl, hbx⟩
    have hzx := hbx.size
    have HN := Lib.hid (HN.out.trans (hbx.mono HN.out.size))
    have HG := Lib.hid (HG.out.below hbx)
    have HX := Lib.hid (blk_below HX.out hbx)
    clear hbx
    go_wp2_with fail
    refine tailL_mk HN.out ?_
    refine tailY_cons ?_
    go_wp2_with fail
    refine (HS2.out _).mono ?_
    rintro e11 p6 ⟨rfl, hbx⟩
    have hzx := hbx.size
    have HN := Lib.hid (HN.out.trans (hbx.mono HN.out.size))
    have HG := Lib.hid (HG.out.below hbx)
    have HX := Lib.hid (blk_below HX.out hbx)
    clear hbx
    go_wp2_with fail
    refine tailL_mk HN.out ?_
    refine tailY_cons ?_
    go_wp2_with fail
    refine tailL_mk HN.out ?_
    refine tailY_ends ?_
    refine ends_cons ?_
    have x0 := blk_cell HX.out (i := 0) rfl
    have x1 := blk_cell HX.out (i := 1) rfl
    have x2 := blk_cell HX.out (i := 2) rfl
    have x3 := blk_cell HX.out (i := 3) rfl
    have f0 := blk_fz HX.out 0
    have f1 := blk_fz HX.out 1
    have f2 := blk_fz HX.out 2
    have f3 := blk_fz HX.out 3
    go_wp2_with fail
    refine tailZ_end ?_
    refine ends_nil ?_
    obtain ⟨W3, hW3⟩ : ∃ W3, W3 = ((((p6.setCell ⟨X8, 0, none⟩ (.int .i64 (sz cn))).setCell ⟨X8, 1, none⟩ (.int .i64 cd)).setCell ⟨X8, 2, none⟩ (.int .i64 (sz wn))).setCell ⟨X8, 3, none⟩ (.int .i64 wd)) := ⟨_, rfl⟩
    rw [← hW3]
    have kw : W3.heap[X8]? = some (.cells #[.int .i64 (sz cn), .int .i64 cd, .int .i64 (sz wn), .int .i64 wd] 106) := by rw [hW3]; exact blk_set (blk_set (blk_set (blk_set HX.out 0 _) 1 _) 2 _) 3 _
    have hbz : Below w.heap.size w W3 := by rw [hW3]; exact (((((HB3.out.trans (HN.out.mono HB3.out.size)).setCell hw8 _).setCell hw8 _).setCell hw8 _).setCell hw8 _)
    have r0 := blk_cell kw (i := 0) rfl
    have r1 := blk_cell kw (i := 1) rfl
    have r2 := blk_cell kw (i := 2) rfl
    have r3 := blk_cell kw (i := 3) rfl
    clear x0 x1 x2 x3 f0 f1 f2 f3 hW3
    go_wp2
    refine bodyPost_ret (v := .agg #[.int .i64 (sz cn), .int .i64 cd, .int .i64 (sz wn), .int .i64 wd]) (by simp [results, Tryz.results138, go_sem, r0, r1, r2, r3]) rfl ⟨rfl, hbz⟩
end Go.Proofs.YtidboecjllaofaaGreat
