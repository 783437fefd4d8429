import Derived.Test.YtdjinmieogpgcaaGreatMTMapG
/- What a contact breaks: the program. -/
namespace Go.Proofs.YtdjinmieogpgcaaGreat
open Go.RowKit Go.Shelf
set_option linter.unusedVariables false
set_option linter.unusedSimpArgs false
set_option maxHeartbeats 4000000 in
set_option maxRecDepth 100000 in
theorem breaks_any (m : Mac) (l : Lim) (s i : Nat) (load : Int) (ab ag : Option Addr) (nb cb ng cg : Nat) (w : World) (hb : BrR w ab nb m.br) (he : ElV m l s load) (he2 : ElV m l (trn s i) load) (hi : i < nb) :
    Calls Tryz.prog 94 #[.agg #[.slice ab nb cb, .int .i64 m.st, .slice ag ng cg, .int .i64 l.volt, .int .i64 l.lo, .int .i64 l.hi, .int .i64 l.circ, .int .i64 l.brk, .int .i64 l.ret], .int .i64 (s : Int), .int .i64 (i : Int), .int .i64 load] w fun e' w' => e' = .returned (.agg #[.int .i64 (brkC m l s i load).1, .int .i64 (brkC m l s i load).2, .int .i64 (brkV m l s i load).1, .int .i64 (brkV m l s i load).2]) ∧ Below w.heap.size w w' := by
 have hlen := hb.len
 have hn6 : nb ≤ 6 := by rw [← hlen]; exact he.hm.n1
 have hs64 := he.s64
 have HTU := Lib.hid (fun (W : World) => (turned_any s i W hs64 (by omega)).mono (fun e w' h => show e = .returned (.int .i64 ((trn s i : Nat) : Int)) ∧ Below W.heap.size W w' from ⟨h.1, h.2 ▸ Below.refl _ _⟩))
 have HOU0 := Lib.hid (fun (W : World) (hbw : Below w.heap.size w W) => output_any m l (trn s i) load ab ag nb cb ng cg W he.hm (hb.below hbw) he.hl he.hd (by rw [← hlen]; exact he2.hs) he2.h0)
 have HCR0 := Lib.hid (fun (W : World) (hbw : Below w.heap.size w W) => currents_any m l s load ab ag nb cb ng cg W he.hm (hb.below hbw) he.hl he.hd (by rw [← hlen]; exact he.hs) he.h0)
 have HV10 := Lib.hid (fun (W : World) (hbw : Below w.heap.size w W) => voltage_any m l i ab ag nb cb ng cg W he.hm (hb.below hbw) he.hl hi)
 have hcb := curT_bd he (k := i) (by rw [hlen]; exact hi)
 have hvb := he2.vo
 obtain ⟨o1, o2⟩ := ovr_bd he.hm he.hl (show i < m.br.length by rw [hlen]; exact hi) hvb
 have hlw := low_props (a := volA m l i * (outT m l (trn s i) load).2 - (outT m l (trn s i) load).1 * 1) (b := 1 * (outT m l (trn s i) load).2) (by rw [Int.one_mul]; exact hvb.1)
 have HMI := Lib.hid (fun (W : World) => t_minus_any (volA m l i) 1 (outT m l (trn s i) load).1 (outT m l (trn s i) load).2 W (by omega) (by unfold VoB at hvb; omega) (by rw [Int.one_mul]; exact hvb.1) (by unfold VoB at hvb; omega))
 obtain ⟨BC, hBC⟩ : ∃ x, x = brkC m l s i load := ⟨_, rfl⟩
 obtain ⟨BV, hBV⟩ : ∃ x, x = brkV m l s i load := ⟨_, rfl⟩
 obtain ⟨BW, hBW⟩ : ∃ x, x = brkW m l (trn s i) i load := ⟨_, rfl⟩
 have hBW2 : BW = low (volA m l i * (outT m l (trn s i) load).2 - (outT m l (trn s i) load).1 * 1) (1 * (outT m l (trn s i) load).2) := hBW
 rw [← hBW2] at HMI hlw
 unfold ovr at o1
 rw [← hBC, ← hBV]
 have HPG := Lib.hid (pcells_get (curT m l s load) i (by rw [curT_len, hlen]; exact hi))
 have HBC : BC = (sz ((curT m l s load).getD i (0, 0)).1, ((curT m l s load).getD i (0, 0)).2) := hBC
 have HBV : BV = (sz BW.1, BW.2) := by rw [hBV, hBW]; rfl
 have HS1 := Lib.hid (fun (W : World) => t_size_any ((curT m l s load).getD i (0, 0)).1 ((curT m l s load).getD i (0, 0)).2 W (by omega) (by omega))
 have HS2 := Lib.hid (fun (W : World) => t_size_any BW.1 BW.2 W (by unfold VoB at hvb; omega) (by unfold VoB at hvb; omega))
 generalize curT m l s load = CT at *
 generalize CT.getD i (0, 0) = CC at *
 generalize outT m l (trn s i) load = OT at *
 have i0 : (0 : Int) ≤ (i : Int) := by omega
 have i1 : (i : Int) < (nb : Int) := by omega
 obtain ⟨vo, lo, hi, ci, br, re⟩ := l
 obtain ⟨st, hst⟩ : ∃ x, x = m.st := ⟨_, rfl⟩
 rw [← hst] at HCR0 HOU0 HV10 ⊢
 generalize volA m ⟨vo, lo, hi, ci, br, re⟩ i = VA at *
 obtain ⟨on, od⟩ := OT
 obtain ⟨cn, cd⟩ := CC
 obtain ⟨wn, wd⟩ := BW
 subst HBC HBV
 simp only at HCR0 HOU0 HV10 HS1 HS2 HMI HPG ⊢
 clear hb he he2 hst hlen hcb hvb o1 o2 hlw hBC hBV hBW hBW2
 go_enter Tryz.func94, Tryz.ntmps94
 go_wp2_with fail
 obtain ⟨w2, hW2⟩ : ∃ w2, w2 = (w.alloc (Obj.cells #[.slice ab nb cb, .int .i64 st, .slice ag ng cg, .int .i64 vo, .int .i64 lo, .int .i64 hi, .int .i64 ci, .int .i64 br, .int .i64 re] 100)).alloc (Obj.cells #[.int .i64 0, .int .i64 0, .int .i64 0, .int .i64 0] 148) := ⟨_, rfl⟩
 rw [← hW2]
 have hb2 : Below w.heap.size w w2 := by rw [hW2]; (first|exact bwg|go_size)
 have k4 : BlkR w2 w.heap.size (.cells #[.slice ab nb cb, .int .i64 st, .slice ag ng cg, .int .i64 vo, .int .i64 lo, .int .i64 hi, .int .i64 ci, .int .i64 br, .int .i64 re] 100) := by
  show w2.heap[w.heap.size]? = _
  rw [hW2, Below.heap_alloc _ _ _ (by simp)]; exact heap_alloc_new _ _
 have k8 : BlkR w2 (w.heap.size + 1) (.cells #[.int .i64 0, .int .i64 0, .int .i64 0, .int .i64 0] 148) := by
  show w2.heap[w.heap.size + 1]? = _
  rw [hW2]
  have := heap_alloc_new (w.alloc (Obj.cells #[.slice ab nb cb, .int .i64 st, .slice ag ng cg, .int .i64 vo, .int .i64 lo, .int .i64 hi, .int .i64 ci, .int .i64 br, .int .i64 re] 100)) (Obj.cells #[.int .i64 0, .int .i64 0, .int .i64 0, .int .i64 0] 148)
  rwa [World.size_alloc] at this
 obtain ⟨X4, hX4⟩ : ∃ X, X = w.heap.size := ⟨_, rfl⟩
 obtain ⟨X8, hX8⟩ : ∃ X, X = w.heap.size + 1 := ⟨_, rfl⟩
 rw [← hX8] at k8
 rw [← hX4] at k4
 simp only [← hX8]
 simp only [← hX4]
 have l48 : X4 ≠ X8 := by omega
 have hw8 : w.heap.size ≤ X8 := by omega
 have HOU := Lib.hid (fun (W : World) (hbw : Below w2.heap.size w2 W) => HOU0.out W (hb2.trans (hbw.mono hb2.size)))
 obtain ⟨c4, c4_1, c4_2, c4_3, c4_4, c4_5, c4_6, c4_7, c4_8, l4⟩ := blkc9 k4
 have K4 := Lib.hid k4
 have K8 := Lib.hid k8
 have HB2 := Lib.hid hb2
 clear hW2 hX4 hX8 k4 k8 hb2
 go_cut [9] from 10 to 15 (fun v9 wx => ∃ X9 : Nat, v9 = .pointer (some ⟨X9, 0, none⟩) ∧ Hid (BlkR wx X9 (.cells #[.int .i64 on, .int .i64 od] 85)) ∧ Hid (w2.heap.size ≤ X9) ∧ Hid (Below w2.heap.size w2 wx))
 case first =>
  have HN := Lib.hid (Below.refl w2.heap.size w2).drew
  refine wp_region_laterT (B := w2.heap.size) (.head 0 (.head 1 (.head 2 (.head 4 (.two 3 (.two 5 (.one 6 (.one 7 .done)) 6 (.one 5 (.one 7 .done))) 6 (.one 3 (.one 5 (.one 7 .done)))))))) (by kernel_rfl) (by kernel_rfl) ?_
  repeat (refine tree_head rfl ?_; (show wpQuiet _ _ _ _ (_ :: _) _; go_big_quiet_step (fail)); refine wpQuiet_nil ?_)
  refine tree_two rfl rfl ?_ ?_
  ·go_wp2_with fail
   refine (HTU.out _).mono ?_
   rintro e11 wx1 ⟨rfl, hbx⟩
   have hzx := hbx.size
   have HN := bwt HN hbx
   clear hbx
   go_wp2_with fail
   refine tailL_mk HN.out ?_
   refine tree_two rfl rfl ?_ ?_
   ·go_wp2_with fail
    refine (HOU.out _ HN.out).mono ?_
    rintro e11 wx2 ⟨rfl, hbx⟩
    have hzx := hbx.size
    have HN := bwt HN hbx
    clear hbx
    go_wp2_with fail
    refine tailL_mk HN.out ?_
    refine tree_one rfl ?_
    go_wp2_with fail
    obtain ⟨X9, hX9, hNX, hx9, l9, hs9, hbx⟩ := xal HN.out (Obj.cells #[.int .i64 0, .int .i64 0] 85)
    try simp only [← hX9]
    generalize (wx2.alloc (Obj.cells #[.int .i64 0, .int .i64 0] 85)) = wx3 at *
    have HX9 := Lib.hid (And.intro hX9 hs9)
    have HN := bwt HN hbx
    clear hbx hX9 hs9
    refine tailL_mk HN.out ?_
    refine tree_one rfl ?_
    obtain ⟨c90, c91, f90, f91⟩ := xcf2 hx9
    go_wp2_with fail
    have hq9 := xst2 HN.out hNX hx9 (.int .i64 on) (.int .i64 od)
    have HN := Lib.hid hq9.1
    have hxo := hx9
    have hx9 := hq9.2
    clear hq9
    refine tailL_mk HN.out ?_
    refine tree_done ?_
    go_wp2_with fail
    go_meet
    case rel => exact ⟨X9, rfl, Lib.hid hx9, Lib.hid hNX, HN⟩
   ·go_wp2_with fail
    obtain ⟨X9, hX9, hNX, hx9, l9, hs9, hbx⟩ := xal HN.out (Obj.cells #[.int .i64 0, .int .i64 0] 85)
    try simp only [← hX9]
    generalize (wx1.alloc (Obj.cells #[.int .i64 0, .int .i64 0] 85)) = wx5 at *
    have HX9 := Lib.hid (And.intro hX9 hs9)
    have HN := bwt HN hbx
    clear hbx hX9 hs9
    refine tailL_mk HN.out ?_
    refine tree_one rfl ?_
    go_wp2_with fail
    refine (HOU.out _ HN.out).mono ?_
    rintro e11 wx6 ⟨rfl, hbx⟩
    have hzx := hbx.size
    have HN := bwt HN hbx
    have hx9 := (hbx.block X9 l9).trans hx9
    have l9 := Nat.lt_of_lt_of_le l9 hbx.size
    clear hbx
    go_wp2_with fail
    refine tailL_mk HN.out ?_
    refine tree_one rfl ?_
    obtain ⟨c90, c91, f90, f91⟩ := xcf2 hx9
    go_wp2_with fail
    have hq9 := xst2 HN.out hNX hx9 (.int .i64 on) (.int .i64 od)
    have HN := Lib.hid hq9.1
    have hxo := hx9
    have hx9 := hq9.2
    clear hq9
    refine tailL_mk HN.out ?_
    refine tree_done ?_
    go_wp2_with fail
    go_meet
    case rel => exact ⟨X9, rfl, Lib.hid hx9, Lib.hid hNX, HN⟩
  ·go_wp2_with fail
   obtain ⟨X9, hX9, hNX, hx9, l9, hs9, hbx, hbd⟩ := xald HN.out (Obj.cells #[.int .i64 0, .int .i64 0] 85)
   try simp only [← hX9]
   generalize (w2.alloc (Obj.cells #[.int .i64 0, .int .i64 0] 85)).drew = wx8 at *
   have HX9 := Lib.hid (And.intro hX9 hs9)
   have HN := Lib.hid hbx
   clear hbx hX9 hs9 hbd
   refine tailL_mk HN.out ?_
   refine tree_one rfl ?_
   go_wp2_with fail
   refine (HTU.out _).mono ?_
   rintro e11 wx9 ⟨rfl, hbx⟩
   have hzx := hbx.size
   have HN := bwt HN hbx
   have hx9 := (hbx.block X9 l9).trans hx9
   have l9 := Nat.lt_of_lt_of_le l9 hbx.size
   clear hbx
   go_wp2_with fail
   refine tailL_mk HN.out ?_
   refine tree_one rfl ?_
   go_wp2_with fail
   refine (HOU.out _ HN.out).mono ?_
   rintro e11 wx10 ⟨rfl, hbx⟩
   have hzx := hbx.size
   have HN := bwt HN hbx
   have hx9 := (hbx.block X9 l9).trans hx9
   have l9 := Nat.lt_of_lt_of_le l9 hbx.size
   clear hbx
   go_wp2_with fail
   refine tailL_mk HN.out ?_
   refine tree_one rfl ?_
   obtain ⟨c90, c91, f90, f91⟩ := xcf2 hx9
   go_wp2_with fail
   have hq9 := xst2 HN.out hNX hx9 (.int .i64 on) (.int .i64 od)
   have HN := Lib.hid hq9.1
   have hxo := hx9
   have hx9 := hq9.2
   clear hq9
   refine tailL_mk HN.out ?_
   refine tree_done ?_
   go_wp2_with fail
   go_meet
   case rel => exact ⟨X9, rfl, Lib.hid hx9, Lib.hid hNX, HN⟩
 case rest =>
  obtain ⟨w3, rfl⟩ : ∃ w', w' = wc := ⟨wc, rfl⟩
  obtain ⟨X9, rfl, K9, hX9, HN2⟩ := hcut
  have hb3 := HB2.out.trans (HN2.out.mono HB2.out.size)
  have HCR := Lib.hid (fun (W : World) (hbw : Below w3.heap.size w3 W) => HCR0.out W (hb3.trans (hbw.mono hb3.size)))
  have HV1 := Lib.hid (fun (W : World) (hbw : Below w3.heap.size w3 W) => HV10.out W (hb3.trans (hbw.mono hb3.size)))
  have n89 : X8 ≠ X9 := by have := K8.out.lt; have := hX9.out; omega
  have K4 := Lib.hid (K4.out.below HN2.out)
  have K8 := Lib.hid (K8.out.below HN2.out)
  have HB3 := Lib.hid hb3
  obtain ⟨c4, c4_1, c4_2, c4_3, c4_4, c4_5, c4_6, c4_7, c4_8, _⟩ := blkc9 K4.out
  obtain ⟨c9, c9_1, _⟩ := blkc2 K9.out
  have l4 := K4.out.lt
  have l9 := K9.out.lt
  have HX := Lib.hid (show w3.heap[X8]? = _ from K8.out)
  clear hb3 HN2 hX9 HOU HOU0 HTU
  go_wp2_with fail
  have HN := Lib.hid (Below.refl w3.heap.size w3).drew
  refine wp_region_laterY (B := w3.heap.size) [0, 1, 2, 4, 8, 9, 12] [3, 5, 6, 7, 10, 11, 13, 14, 15] [16] (by kernel_rfl) (by kernel_rfl) ?_; simp only [List.filterMap_cons, List.filterMap_nil, List.getElem?_cons_zero, List.getElem?_cons_succ]; repeat (show wpQuiet _ _ _ _ (_ :: _) _; go_big_quiet_step (fail))
  refine wpQuiet_nil ?_
  have HX := Lib.hid (blk_below HX.out (Below.refl _ _).drew)
  refine tailY_cons ?_
  go_wp2_with fail
  refine (HCR.out _ HN.out).mono ?_
  rintro e11 p1 ⟨g, rfl, hg, hgr, hbx⟩
  have HG := Lib.hid (show BlkR p1 g (.cells (pcells CT).toArray 85) from hgr)
  clear hg hgr
  have hzx := hbx.size
  have HN := bwt HN hbx
  have HX := Lib.hid (blk_below HX.out hbx)
  clear hbx
  go_wp2_with fail
  refine tailL_mk HN.out ?_
  refine tailY_cons ?_
  go_wp2_with fail
  have lg := HG.out.lt
  have cg0 := cell_of_row _ _ (i * 2) _ _ _ HG.out
  have cg1 := cell_of_row _ _ (i * 2 + 1) _ _ _ HG.out
  rw [List.getElem?_toArray] at cg0 cg1
  rw [HPG.out.1] at cg0
  rw [HPG.out.2] at cg1
  go_wp2_with fail
  refine tailL_mk HN.out ?_
  refine tailY_cons ?_
  go_wp2_with fail
  refine tailL_mk HN.out ?_
  refine tailY_cons ?_
  go_wp2_with fail
  clear cg0 cg1 lg
  refine (HS1.out _).mono ?_
  rintro e11 p2 ⟨rfl, hbx⟩
  have hzx := hbx.size
  have HN := bwt HN hbx
  have HG := Lib.hid (HG.out.below hbx)
  have HX := Lib.hid (blk_below HX.out hbx)
  clear hbx
  go_wp2_with fail
  refine tailL_mk HN.out ?_
  refine tailY_cons ?_
  go_wp2_with fail
  refine (HV1.out _ HN.out).mono ?_
  rintro e11 p3 ⟨rfl, hbx⟩
  have hzx := hbx.size
  have HN := bwt HN hbx
  have HG := Lib.hid (HG.out.below hbx)
  have HX := Lib.hid (blk_below HX.out hbx)
  clear hbx
  go_wp2_with fail
  refine tailL_mk HN.out ?_
  refine tailY_cons ?_
  go_wp2_with fail
  refine (t_whole_any _ _).mono ?_
  rintro e11 p4 ⟨rfl, hbx⟩
  have hzx := hbx.size
  have HN := bwt HN hbx
  have HG := Lib.hid (HG.out.below hbx)
  have HX := Lib.hid (blk_below HX.out hbx)
  clear hbx
  go_wp2_with fail
  refine tailL_mk HN.out ?_
  refine tailY_cons ?_
  go_wp2_with fail
  refine (HMI.out _).mono ?_
  rintro e11 p5 ⟨rfl, hbx⟩
  have hzx := hbx.size
  have HN := bwt HN hbx
  have HG := Lib.hid (HG.out.below hbx)
  have HX := Lib.hid (blk_below HX.out hbx)
  clear hbx
  go_wp2_with fail
  refine tailL_mk HN.out ?_
  refine tailY_cons ?_
  go_wp2_with fail
  refine (HS2.out _).mono ?_
  rintro e11 p6 ⟨rfl, hbx⟩
  have hzx := hbx.size
  have HN := bwt HN hbx
  have HG := Lib.hid (HG.out.below hbx)
  have HX := Lib.hid (blk_below HX.out hbx)
  clear hbx
  go_wp2_with fail
  refine tailL_mk HN.out ?_
  refine tailY_cons ?_
  go_wp2_with fail
  refine tailL_mk HN.out ?_
  refine tailY_ends ?_
  refine ends_cons ?_
  obtain ⟨x0, x1, x2, x3, _⟩ := blkc4 HX.out
  have f0 := blk_fz HX.out 0
  have f1 := blk_fz HX.out 1
  have f2 := blk_fz HX.out 2
  have f3 := blk_fz HX.out 3
  go_wp2_with fail
  refine tailZ_end ?_
  refine ends_nil ?_
  obtain ⟨W3, hW3⟩ : ∃ W3, W3 = ((((p6.setCell ⟨X8, 0, none⟩ (.int .i64 (sz cn))).setCell ⟨X8, 1, none⟩ (.int .i64 cd)).setCell ⟨X8, 2, none⟩ (.int .i64 (sz wn))).setCell ⟨X8, 3, none⟩ (.int .i64 wd)) := ⟨_, rfl⟩
  rw [← hW3]
  have kw : W3.heap[X8]? = some (.cells #[.int .i64 (sz cn), .int .i64 cd, .int .i64 (sz wn), .int .i64 wd] 148) := by rw [hW3]; exact blk_set (blk_set (blk_set (blk_set HX.out 0 _) 1 _) 2 _) 3 _
  have hbz : Below w.heap.size w W3 := by rw [hW3]; exact (((((HB3.out.trans (HN.out.mono HB3.out.size)).setCell hw8 _).setCell hw8 _).setCell hw8 _).setCell hw8 _)
  obtain ⟨r0, r1, r2, r3, _⟩ := blkc4 kw
  clear x0 x1 x2 x3 f0 f1 f2 f3 hW3
  go_wp2
  refine bodyPost_ret (v := .agg #[.int .i64 (sz cn), .int .i64 cd, .int .i64 (sz wn), .int .i64 wd]) (by simp [results, Tryz.results94, go_sem, r0, r1, r2, r3]) rfl ⟨rfl, hbz⟩
/- Safe states and safe changes: the program. -/
theorem trn_lt {n s i : Nat} (hn : n ≤ 6) (hs : s < 2 ^ n) (hi : i < n) : trn s i < 2 ^ n := turn_lt n (by omega) s hs i hi
theorem curE_s0 {m : Mac} {s : Nat} (h : curE m s = 0) : s ≠ 0 := by
 rintro rfl
 rw [curE_cases, if_pos rfl] at h
 exact absurd h (by decide)
theorem safE_cur {m : Mac} {l : Lim} {s : Nat} (h : safE m l s = 0) : curE m s = 0 := by
 unfold safE at h
 split at h
 ·rename_i h1; exact absurd h h1
 ·rename_i h1; exact Decidable.not_not.1 h1
theorem lodE_first (m : Mac) (l : Lim) (s i : Nat) (load : Int) : lodE m l s i load = firstErr [unl (!decide (l.brk * (brkC m l s i load).2 < (brkC m l s i load).1)) 22, unl (!decide (l.ret * (brkV m l s i load).2 < (brkV m l s i load).1)) 24] := by
 unfold lodE
 by_cases h1 : l.brk * (brkC m l s i load).2 < (brkC m l s i load).1
 ·rw [if_pos h1]; simp [h1, unl, firstErr]
 ·rw [if_neg h1]
  by_cases h2 : l.ret * (brkV m l s i load).2 < (brkV m l s i load).1
  ·rw [if_pos h2]; simp [h1, h2, unl, firstErr]
  ·rw [if_neg h2]; simp [h1, h2, unl, firstErr]
theorem cirA_bd {m : Mac} {l : Lim} {s : Nat} (h : ElV m l s 0) : 0 < (cirA m l s).2 ∧ (cirA m l s).2 ≤ 38102400 := (cirF_bd h (Nat.le_refl _)).2
theorem brkC_bd {m : Mac} {l : Lim} {s i : Nat} {load : Int} (h : ElV m l s load) (hi : i < m.br.length) : 0 < (brkC m l s i load).2 ∧ (brkC m l s i load).2 ≤ 151200 := (curT_bd h hi).2
theorem brkV_bd {m : Mac} {l : Lim} {s i : Nat} {load : Int} (h : ElV m l (trn s i) load) (hi : i < m.br.length) : 0 < (brkV m l s i load).2 ∧ (brkV m l s i load).2 ≤ 15120 := by
 obtain ⟨d0, d1, _⟩ := h.vo
 obtain ⟨_, p, q, _⟩ := low_props (a := volA m l i * (outT m l (trn s i) load).2 - (outT m l (trn s i) load).1 * 1) (b := 1 * (outT m l (trn s i) load).2) (by rw [Int.one_mul]; exact d0)
 unfold brkV brkW
 exact ⟨p, by omega⟩
theorem mul_small {a b : Int} (ha : 0 ≤ a ∧ a ≤ 1000) (hb : 0 < b ∧ b ≤ 38102400) : -9223372036854775807 ≤ a * b ∧ a * b ≤ 9223372036854775807 := by
 have h1 := Int.mul_nonneg ha.1 (Int.le_of_lt hb.1)
 have h2 : a * b ≤ 1000 * 38102400 := Int.mul_le_mul ha.2 hb.2 (Int.le_of_lt hb.1) (by decide)
 omega
set_option maxHeartbeats 2000000 in
set_option maxRecDepth 100000 in
theorem safe_any (m : Mac) (l : Lim) (s : Nat) (ab ag : Option Addr) (nb cb ng cg : Nat) (w : World) (hm : MacV m) (hl : limE l = 0) (hb : BrR w ab nb m.br) (hs : s < 2 ^ nb) :
    Calls Tryz.prog 62 #[.agg #[.slice ab nb cb, .int .i64 m.st, .slice ag ng cg, .int .i64 l.volt, .int .i64 l.lo, .int .i64 l.hi, .int .i64 l.circ, .int .i64 l.brk, .int .i64 l.ret], .int .i64 (s : Int)] w fun e' w' => e' = .returned (.int .i64 (safE m l s)) ∧ Below w.heap.size w w' := by
 have hlen := hb.len
 have HCE := Lib.hid (fun (W : World) (hbw : Below w.heap.size w W) => currentsErr_any m l s ab ag nb cb ng cg W hm (hb.below hbw) hs)
 have HEL := Lib.hid (fun (h : curE m s = 0) => show ElV m l s 0 from ⟨hm, (limE_zero.1 hl).1, by decide, by rw [hlen]; exact hs, curE_s0 h⟩)
 have HCI := Lib.hid (fun (h : curE m s = 0) (W : World) (hbw : Below w.heap.size w W) => circulating_any m l s ab ag nb cb ng cg W (hb.below hbw) (HEL.out h))
 have HXB := Lib.hid (fun (h : curE m s = 0) => mul_small (limE_zero.1 hl).2.2.1 (cirA_bd (HEL.out h)))
 have hV : safE m l s = if curE m s ≠ 0 then curE m s else if l.circ * (cirA m l s).2 < (cirA m l s).1 then 22 else 0 := rfl
 obtain ⟨V, hVV⟩ : ∃ V, V = safE m l s := ⟨_, rfl⟩
 rw [← hVV] at hV ⊢
 generalize curE m s = CE at *
 generalize cirA m l s = CA at *
 obtain ⟨vo, lo, hi, ci, br, re⟩ := l
 obtain ⟨st, hst⟩ : ∃ x, x = m.st := ⟨_, rfl⟩
 rw [← hst] at HCE HCI ⊢
 obtain ⟨cn, cd⟩ := CA
 simp only at HCE HCI HXB hV ⊢
 have HV := Lib.hid hV
 clear hb hst hV hVV hm hl hs hlen HEL
 go_enter Tryz.func62, Tryz.ntmps62
 go_wp2_with fail
 obtain ⟨w1, hW1⟩ : ∃ w1, w1 = w.alloc (Obj.cells #[.slice ab nb cb, .int .i64 st, .slice ag ng cg, .int .i64 vo, .int .i64 lo, .int .i64 hi, .int .i64 ci, .int .i64 br, .int .i64 re] 100) := ⟨_, rfl⟩
 rw [← hW1]
 have hb1 : Below w.heap.size w w1 := by rw [hW1]; (first|exact bwg|go_size)
 have k1 : BlkR w1 w.heap.size (.cells #[.slice ab nb cb, .int .i64 st, .slice ag ng cg, .int .i64 vo, .int .i64 lo, .int .i64 hi, .int .i64 ci, .int .i64 br, .int .i64 re] 100) := by show w1.heap[w.heap.size]? = _; rw [hW1]; exact heap_alloc_new _ _
 obtain ⟨X1, hX1⟩ : ∃ X, X = w.heap.size := ⟨_, rfl⟩
 rw [← hX1] at k1
 simp only [← hX1]
 have K1 := Lib.hid k1
 have HB1 := Lib.hid hb1
 clear hW1 hX1 k1 hb1
 obtain ⟨c1, c1_1, c1_2, c1_3, c1_4, c1_5, c1_6, c1_7, c1_8, l1⟩ := blkc9 K1.out
 refine (HCE.out _ HB1.out).mono ?_
 rintro e5 w5 ⟨rfl, hb5⟩
 have HB := bwt HB1 hb5
 have K1 := Lib.hid (K1.out.below hb5)
 clear hb5 c1 c1_1 c1_2 c1_3 c1_4 c1_5 c1_6 c1_7 c1_8 l1 HCE HB1
 obtain ⟨c1, c1_1, c1_2, c1_3, c1_4, c1_5, c1_6, c1_7, c1_8, l1⟩ := blkc9 K1.out
 by_cases h0 : CE = 0
 ·subst h0
  have HVN := Lib.hid (show V = if ci * cd < cn then 22 else 0 by rw [HV.out, if_neg (by simp)])
  have hxb := HXB.out rfl
  have HCN := Lib.hid (fun (W : World) (hbw : Below w5.heap.size w5 W) => HCI.out rfl W (HB.out.trans (hbw.mono HB.out.size)))
  have HEX := Lib.hid (fun (W : World) => t_exceeds_any cn cd ci W hxb)
  clear HXB HCI HV hxb
  go_wp2_with fail
  refine later_of_eq 6 (by kernel_rfl) (by kernel_rfl) ?_; simp only [List.take_succ_cons, List.take_zero, List.drop_succ_cons, List.drop_zero]; repeat go_big_quiet_step(with_reducible exact calls_later (HCN.out _ (Later.below _)))
  refine wpQuiet_nil ?_; intro w9 hb9
  have HB := bwt HB hb9
  clear hb9 c1 c1_1 c1_2 c1_3 c1_4 c1_5 c1_6 c1_7 c1_8 l1 K1 HCN
  go_wp2_with fail
  refine (HEX.out _).mono ?_
  rintro e10 w10 ⟨rfl, hb10⟩
  have HB := bwt HB hb10
  clear hb10
  by_cases hx : ci * cd < cn
  ·have hx1 : decide (ci * cd < cn) = true := decide_eq_true hx
   have HVX := Lib.hid (show V = 22 by rw [HVN.out, if_pos hx])
   clear hx HVN
   go_wp2_with fail
   refine (t_unless_any _ _ _).mono ?_
   rintro e11 w11 ⟨rfl, rfl⟩
   go_wp2
   go_ret
   exact ⟨ret_int (by rw [HVX.out]; rfl), HB.out⟩
  ·have hx1 : decide (ci * cd < cn) = false := decide_eq_false hx
   have HVX := Lib.hid (show V = 0 by rw [HVN.out, if_neg hx])
   clear hx HVN
   go_wp2_with fail
   refine (t_unless_any _ _ _).mono ?_
   rintro e11 w11 ⟨rfl, rfl⟩
   go_wp2
   go_ret
   exact ⟨ret_int (by rw [HVX.out]; rfl), HB.out⟩
 ·have HVN := Lib.hid (show V = CE by rw [HV.out, if_pos h0])
  have e1 := bne_iff_ne.2 h0
  clear h0 HCI HV HXB
  go_wp2
  go_ret
  exact ⟨ret_int (by rw [HVN.out]), HB.out⟩
end Go.Proofs.YtdjinmieogpgcaaGreat
