import Derived.Test.YtdjinmieogpgcaaGreatMSchedT
/- Machines and limits: the program's checks. -/
namespace Go.Proofs.YtdjinmieogpgcaaGreat
open Go.RowKit
set_option linter.unusedVariables false
set_option linter.unusedSimpArgs false
theorem cm1_any (n : Int) (X nb cb : Nat) (ab : Option Addr) (w : World) (h : w.cell? ⟨X, 0, none⟩ = some (.slice ab nb cb)) (hX : X < w.heap.size) (hn : nb ≤ 8) :
    Calls Tryz.prog 129 #[.int .i64 n, .pointer (some ⟨X, 0, none⟩)] w fun e' w' => e' = .returned (.bool (isS nb n)) ∧ w = w' := by
 obtain ⟨p, hp, w1, w2, p1, p2⟩ := pow_wrap hn
 have n0 : (0 : Int) ≤ (nb : Int) := by omega
 have n1 : (nb : Int) ≤ 64 := by omega
 have n2 : ((nb : Int)).toNat = nb := by omega
 unfold isS
 rw [← hp]
 have HW := Lib.hid (fun w' => t_within_any n 0 (p - 1) w')
 clear hp
 generalize wi n 0 (p - 1) = b at *
 go_enter Tryz.func129, Tryz.ntmps129
 go_wp2_with fail
 refine (HW.out _).mono ?_
 rintro e5 w5 ⟨rfl, rfl⟩
 go_wp2
 go_ret
 exact ⟨rfl, rfl⟩
theorem loadE_any (s : Int) (w : World) : Calls Tryz.prog 95 #[.int .i64 s] w fun e' w' => e' = .returned (.int .i64 (loaE s)) ∧ w = w' := by
 have HS := Lib.hid (fun W => t_small_any s 1000 W (by omega) (by omega))
 unfold loaE
 generalize wi s (-1000) 1000 = b at *
 go_enter Tryz.func95, Tryz.ntmps95
 go_wp2_with fail
 refine (HS.out _).mono ?_
 rintro e5 w5 ⟨rfl, rfl⟩
 go_wp2_with fail
 refine (t_unless_any _ _ _).mono ?_
 rintro e6 w6 ⟨rfl, rfl⟩
 go_wp2
 go_ret
 exact ⟨rfl, rfl⟩
theorem cl1_any (n : Int) (w : World) : Calls Tryz.prog 110 #[.int .i64 n] w fun e' w' => e' = .returned (.bool (wi n 0 1000)) ∧ w = w' := by
 have HS := Lib.hid (fun W => t_within_any n 0 1000 W)
 generalize wi n 0 1000 = b at *
 go_enter Tryz.func110, Tryz.ntmps110
 go_wp2_with fail
 refine (HS.out _).mono ?_
 rintro e5 w5 ⟨rfl, rfl⟩
 go_wp2
 go_ret
 exact ⟨rfl, rfl⟩
theorem cl2_any (n : Int) (w : World) : Calls Tryz.prog 111 #[.int .i64 n] w fun e' w' => e' = .returned (.bool (wi n (-1000) 1000)) ∧ w = w' := by
 have HS := Lib.hid (fun W => t_small_any n 1000 W (by omega) (by omega))
 generalize wi n (-1000) 1000 = b at *
 go_enter Tryz.func111, Tryz.ntmps111
 go_wp2_with fail
 refine (HS.out _).mono ?_
 rintro e5 w5 ⟨rfl, rfl⟩
 go_wp2
 go_ret
 exact ⟨rfl, rfl⟩
theorem m_staE_any (x : Int) (nb cb ng cg : Nat) (ab ag : Option Addr) (s : Int) (w : World) (hn : nb ≤ 8) :
    Calls Tryz.prog 61 #[.agg #[.slice ab nb cb, .int .i64 x, .slice ag ng cg], .int .i64 s] w fun e' w' => e' = .returned (.int .i64 (staE nb s)) ∧ Below w.heap.size w w' := by
 obtain ⟨p, hp, w1, w2, p1, p2⟩ := pow_wrap hn
 have n0 : (0 : Int) ≤ (nb : Int) := by omega
 have n1 : (nb : Int) ≤ 64 := by omega
 have n2 : ((nb : Int)).toNat = nb := by omega
 unfold staE isS
 rw [← hp]
 have HW := Lib.hid (fun w' => t_within_any s 0 (p - 1) w')
 clear hp
 generalize wi s 0 (p - 1) = b at *
 go_enter Tryz.func61, Tryz.ntmps61
 go_wp2_with fail
 refine (HW.out _).mono ?_
 rintro e5 w5 ⟨rfl, rfl⟩
 go_wp2_with fail
 refine (t_unless_any _ _ _).mono ?_
 rintro e6 w6 ⟨rfl, rfl⟩
 go_wp2
 go_ret
 exact ⟨rfl, by (first|exact bwg|go_size)⟩
set_option maxHeartbeats 2000000 in
set_option maxRecDepth 100000 in
theorem checkLimits_any (l : Lim) (w : World) : Calls Tryz.prog 76 #[.agg #[.int .i64 l.volt, .int .i64 l.lo, .int .i64 l.hi, .int .i64 l.circ, .int .i64 l.brk, .int .i64 l.ret]] w fun e' w' => e' = .returned (.int .i64 (limE l)) ∧ Below w.heap.size w w' := by
 unfold limE
 obtain ⟨vo, lo, hi, ci, br, re⟩ := l
 simp only
 have H1 := Lib.hid (fun w' => cl1_any vo w')
 have H2 := Lib.hid (fun w' => cl2_any lo w')
 have H3 := Lib.hid (fun w' => cl2_any hi w')
 have H4 := Lib.hid (fun w' => cl1_any ci w')
 have H5 := Lib.hid (fun w' => cl1_any br w')
 have H6 := Lib.hid (fun w' => cl1_any re w')
 have HU := Lib.hid (fun (b : Bool) (e : Int) w' => t_unless_any b e w')
 generalize wi vo 0 1000 = b1 at *
 generalize wi lo (-1000) 1000 = b2 at *
 generalize wi hi (-1000) 1000 = b3 at *
 generalize wi ci 0 1000 = b4 at *
 generalize wi br 0 1000 = b5 at *
 generalize wi re 0 1000 = b6 at *
 obtain ⟨V, hV⟩ : ∃ V, V = firstErr [unl (b1 && b2 && b3) 2, unl (decide (lo ≤ hi)) 9, unl (b4 && b5 && b6) 2] := ⟨_, rfl⟩
 have HV := Lib.hid hV
 rw [← hV]
 clear hV
 go_enter Tryz.func76, Tryz.ntmps76
 go_wp2_with fail
 cases b1
 ·cases b4
  ·skip
   refine later_of_eq 44 (by kernel_rfl) (by kernel_rfl) ?_; simp only [List.take_succ_cons, List.take_zero, List.drop_succ_cons, List.drop_zero]; repeat go_big_quiet_step (first | with_reducible exact calls_later_same (H1.out _) | with_reducible exact calls_later_same (H2.out _) | with_reducible exact calls_later_same (H3.out _) | with_reducible exact calls_later_same (H4.out _) | with_reducible exact calls_later_same (H5.out _) | with_reducible exact calls_later_same (H6.out _) | with_reducible exact calls_later_same (HU.out _ _ _))
   refine wpQuiet_nil ?_; intro w5 hb5
   have HB5 := Lib.hid (show Below w.heap.size w w5 by (first|exact bwg|go_size))
   clear hb5
   go_wp2_with fail
   refine (t_first3 _ _ _ _ _ _ _ (by rfl) (by simp)).mono ?_
   rintro e8 w8 ⟨rfl, hw8⟩
   have HB8 := Lib.hid (show Below w.heap.size w w8 from HB5.out.trans ((show Below w5.heap.size w5 w8 by rw [← hw8]; (first|exact bwg|go_size)).mono HB5.out.size))
   clear hw8
   go_wp2
   go_ret
   exact ⟨ret_int (by rw [HV.out]; simp), HB8.out⟩
  ·cases b5
   ·skip
    refine later_of_eq 44 (by kernel_rfl) (by kernel_rfl) ?_; simp only [List.take_succ_cons, List.take_zero, List.drop_succ_cons, List.drop_zero]; repeat go_big_quiet_step (first | with_reducible exact calls_later_same (H1.out _) | with_reducible exact calls_later_same (H2.out _) | with_reducible exact calls_later_same (H3.out _) | with_reducible exact calls_later_same (H4.out _) | with_reducible exact calls_later_same (H5.out _) | with_reducible exact calls_later_same (H6.out _) | with_reducible exact calls_later_same (HU.out _ _ _))
    refine wpQuiet_nil ?_; intro w5 hb5
    have HB5 := Lib.hid (show Below w.heap.size w w5 by (first|exact bwg|go_size))
    clear hb5
    go_wp2_with fail
    refine (t_first3 _ _ _ _ _ _ _ (by rfl) (by simp)).mono ?_
    rintro e8 w8 ⟨rfl, hw8⟩
    have HB8 := Lib.hid (show Below w.heap.size w w8 from HB5.out.trans ((show Below w5.heap.size w5 w8 by rw [← hw8]; (first|exact bwg|go_size)).mono HB5.out.size))
    clear hw8
    go_wp2
    go_ret
    exact ⟨ret_int (by rw [HV.out]; simp), HB8.out⟩
   ·skip
    refine later_of_eq 44 (by kernel_rfl) (by kernel_rfl) ?_; simp only [List.take_succ_cons, List.take_zero, List.drop_succ_cons, List.drop_zero]; repeat go_big_quiet_step (first | with_reducible exact calls_later_same (H1.out _) | with_reducible exact calls_later_same (H2.out _) | with_reducible exact calls_later_same (H3.out _) | with_reducible exact calls_later_same (H4.out _) | with_reducible exact calls_later_same (H5.out _) | with_reducible exact calls_later_same (H6.out _) | with_reducible exact calls_later_same (HU.out _ _ _))
    refine wpQuiet_nil ?_; intro w5 hb5
    have HB5 := Lib.hid (show Below w.heap.size w w5 by (first|exact bwg|go_size))
    clear hb5
    go_wp2_with fail
    refine (t_first3 _ _ _ _ _ _ _ (by rfl) (by simp)).mono ?_
    rintro e8 w8 ⟨rfl, hw8⟩
    have HB8 := Lib.hid (show Below w.heap.size w w8 from HB5.out.trans ((show Below w5.heap.size w5 w8 by rw [← hw8]; (first|exact bwg|go_size)).mono HB5.out.size))
    clear hw8
    go_wp2
    go_ret
    exact ⟨ret_int (by rw [HV.out]; simp), HB8.out⟩
 ·cases b2
  ·cases b4
   ·skip
    refine later_of_eq 44 (by kernel_rfl) (by kernel_rfl) ?_; simp only [List.take_succ_cons, List.take_zero, List.drop_succ_cons, List.drop_zero]; repeat go_big_quiet_step (first | with_reducible exact calls_later_same (H1.out _) | with_reducible exact calls_later_same (H2.out _) | with_reducible exact calls_later_same (H3.out _) | with_reducible exact calls_later_same (H4.out _) | with_reducible exact calls_later_same (H5.out _) | with_reducible exact calls_later_same (H6.out _) | with_reducible exact calls_later_same (HU.out _ _ _))
    refine wpQuiet_nil ?_; intro w5 hb5
    have HB5 := Lib.hid (show Below w.heap.size w w5 by (first|exact bwg|go_size))
    clear hb5
    go_wp2_with fail
    refine (t_first3 _ _ _ _ _ _ _ (by rfl) (by simp)).mono ?_
    rintro e8 w8 ⟨rfl, hw8⟩
    have HB8 := Lib.hid (show Below w.heap.size w w8 from HB5.out.trans ((show Below w5.heap.size w5 w8 by rw [← hw8]; (first|exact bwg|go_size)).mono HB5.out.size))
    clear hw8
    go_wp2
    go_ret
    exact ⟨ret_int (by rw [HV.out]; simp), HB8.out⟩
   ·cases b5
    ·skip
     refine later_of_eq 44 (by kernel_rfl) (by kernel_rfl) ?_; simp only [List.take_succ_cons, List.take_zero, List.drop_succ_cons, List.drop_zero]; repeat go_big_quiet_step (first | with_reducible exact calls_later_same (H1.out _) | with_reducible exact calls_later_same (H2.out _) | with_reducible exact calls_later_same (H3.out _) | with_reducible exact calls_later_same (H4.out _) | with_reducible exact calls_later_same (H5.out _) | with_reducible exact calls_later_same (H6.out _) | with_reducible exact calls_later_same (HU.out _ _ _))
     refine wpQuiet_nil ?_; intro w5 hb5
     have HB5 := Lib.hid (show Below w.heap.size w w5 by (first|exact bwg|go_size))
     clear hb5
     go_wp2_with fail
     refine (t_first3 _ _ _ _ _ _ _ (by rfl) (by simp)).mono ?_
     rintro e8 w8 ⟨rfl, hw8⟩
     have HB8 := Lib.hid (show Below w.heap.size w w8 from HB5.out.trans ((show Below w5.heap.size w5 w8 by rw [← hw8]; (first|exact bwg|go_size)).mono HB5.out.size))
     clear hw8
     go_wp2
     go_ret
     exact ⟨ret_int (by rw [HV.out]; simp), HB8.out⟩
    ·skip
     refine later_of_eq 44 (by kernel_rfl) (by kernel_rfl) ?_; simp only [List.take_succ_cons, List.take_zero, List.drop_succ_cons, List.drop_zero]; repeat go_big_quiet_step (first | with_reducible exact calls_later_same (H1.out _) | with_reducible exact calls_later_same (H2.out _) | with_reducible exact calls_later_same (H3.out _) | with_reducible exact calls_later_same (H4.out _) | with_reducible exact calls_later_same (H5.out _) | with_reducible exact calls_later_same (H6.out _) | with_reducible exact calls_later_same (HU.out _ _ _))
     refine wpQuiet_nil ?_; intro w5 hb5
     have HB5 := Lib.hid (show Below w.heap.size w w5 by (first|exact bwg|go_size))
     clear hb5
     go_wp2_with fail
     refine (t_first3 _ _ _ _ _ _ _ (by rfl) (by simp)).mono ?_
     rintro e8 w8 ⟨rfl, hw8⟩
     have HB8 := Lib.hid (show Below w.heap.size w w8 from HB5.out.trans ((show Below w5.heap.size w5 w8 by rw [← hw8]; (first|exact bwg|go_size)).mono HB5.out.size))
     clear hw8
     go_wp2
     go_ret
     exact ⟨ret_int (by rw [HV.out]; simp), HB8.out⟩
  ·cases b4
   ·skip
    refine later_of_eq 44 (by kernel_rfl) (by kernel_rfl) ?_; simp only [List.take_succ_cons, List.take_zero, List.drop_succ_cons, List.drop_zero]; repeat go_big_quiet_step (first | with_reducible exact calls_later_same (H1.out _) | with_reducible exact calls_later_same (H2.out _) | with_reducible exact calls_later_same (H3.out _) | with_reducible exact calls_later_same (H4.out _) | with_reducible exact calls_later_same (H5.out _) | with_reducible exact calls_later_same (H6.out _) | with_reducible exact calls_later_same (HU.out _ _ _))
    refine wpQuiet_nil ?_; intro w5 hb5
    have HB5 := Lib.hid (show Below w.heap.size w w5 by (first|exact bwg|go_size))
    clear hb5
    go_wp2_with fail
    refine (t_first3 _ _ _ _ _ _ _ (by rfl) (by simp)).mono ?_
    rintro e8 w8 ⟨rfl, hw8⟩
    have HB8 := Lib.hid (show Below w.heap.size w w8 from HB5.out.trans ((show Below w5.heap.size w5 w8 by rw [← hw8]; (first|exact bwg|go_size)).mono HB5.out.size))
    clear hw8
    go_wp2
    go_ret
    exact ⟨ret_int (by rw [HV.out]; simp), HB8.out⟩
   ·cases b5
    ·skip
     refine later_of_eq 44 (by kernel_rfl) (by kernel_rfl) ?_; simp only [List.take_succ_cons, List.take_zero, List.drop_succ_cons, List.drop_zero]; repeat go_big_quiet_step (first | with_reducible exact calls_later_same (H1.out _) | with_reducible exact calls_later_same (H2.out _) | with_reducible exact calls_later_same (H3.out _) | with_reducible exact calls_later_same (H4.out _) | with_reducible exact calls_later_same (H5.out _) | with_reducible exact calls_later_same (H6.out _) | with_reducible exact calls_later_same (HU.out _ _ _))
     refine wpQuiet_nil ?_; intro w5 hb5
     have HB5 := Lib.hid (show Below w.heap.size w w5 by (first|exact bwg|go_size))
     clear hb5
     go_wp2_with fail
     refine (t_first3 _ _ _ _ _ _ _ (by rfl) (by simp)).mono ?_
     rintro e8 w8 ⟨rfl, hw8⟩
     have HB8 := Lib.hid (show Below w.heap.size w w8 from HB5.out.trans ((show Below w5.heap.size w5 w8 by rw [← hw8]; (first|exact bwg|go_size)).mono HB5.out.size))
     clear hw8
     go_wp2
     go_ret
     exact ⟨ret_int (by rw [HV.out]; simp), HB8.out⟩
    ·skip
     refine later_of_eq 44 (by kernel_rfl) (by kernel_rfl) ?_; simp only [List.take_succ_cons, List.take_zero, List.drop_succ_cons, List.drop_zero]; repeat go_big_quiet_step (first | with_reducible exact calls_later_same (H1.out _) | with_reducible exact calls_later_same (H2.out _) | with_reducible exact calls_later_same (H3.out _) | with_reducible exact calls_later_same (H4.out _) | with_reducible exact calls_later_same (H5.out _) | with_reducible exact calls_later_same (H6.out _) | with_reducible exact calls_later_same (HU.out _ _ _))
     refine wpQuiet_nil ?_; intro w5 hb5
     have HB5 := Lib.hid (show Below w.heap.size w w5 by (first|exact bwg|go_size))
     clear hb5
     go_wp2_with fail
     refine (t_first3 _ _ _ _ _ _ _ (by rfl) (by simp)).mono ?_
     rintro e8 w8 ⟨rfl, hw8⟩
     have HB8 := Lib.hid (show Below w.heap.size w w8 from HB5.out.trans ((show Below w5.heap.size w5 w8 by rw [← hw8]; (first|exact bwg|go_size)).mono HB5.out.size))
     clear hw8
     go_wp2
     go_ret
     exact ⟨ret_int (by rw [HV.out]; simp), HB8.out⟩
/- Machines: the program's CheckMachine, openMachine, open. -/
set_option maxHeartbeats 4000000 in
set_option maxRecDepth 100000 in
theorem checkMachine_any (m : Mac) (ab ag : Option Addr) (nb cb ng cg : Nat) (w : World) (hb : BrR w ab nb m.br) (hg : GrR w ag ng m.gs) :
    Calls Tryz.prog 109 #[.agg #[.slice ab nb cb, .int .i64 m.st, .slice ag ng cg]] w fun e' w' => e' = .returned (.tuple #[.int .i64 (macE m).1, .int .i64 (macE m).2]) ∧ Below w.heap.size w w' := by
 have hnb := hb.small
 have hng := hg.small
 have HBR := Lib.hid (fun (W : World) (hbw : Below w.heap.size w W) => hb.below hbw)
 have HGR := Lib.hid (fun (W : World) (hbw : Below w.heap.size w W) => hg.below hbw)
 have HLB := Lib.hid hb.len
 have HLG := Lib.hid hg.len
 clear hb hg
 obtain ⟨br, st, gs⟩ := m
 simp only at HBR HGR HLB HLG ⊢
 obtain ⟨E, hE⟩ : ∃ E, E = macE ⟨br, st, gs⟩ := ⟨_, rfl⟩
 rw [← hE]
 obtain ⟨E1, E2⟩ := E
 have HE := Lib.hid hE
 clear hE
 simp only
 have HU := Lib.hid (fun (b : Bool) (e : Int) w' => t_unless_any b e w')
 have HW := Lib.hid (fun (n lo hi : Int) w' => t_within_any n lo hi w')
 obtain ⟨H, hH'⟩ : ∃ H, H = macH nb := ⟨_, rfl⟩
 have HH := Lib.hid (show H = firstErr [unl (decide (0 < nb)) 10, unl (decide ((nb : Int) ≤ 6)) 8] from hH')
 have HHB := Lib.hid (show macH br.length = H by rw [HLB.out]; exact hH'.symm)
 clear hH'
 go_enter Tryz.func109, Tryz.ntmps109
 go_wp2_with fail
 obtain ⟨w1, hW⟩ : ∃ w1, w1 = w.alloc (Obj.cells #[.slice ab nb cb, .int .i64 st, .slice ag ng cg] 45) := ⟨_, rfl⟩
 rw [← hW]
 have hb1 : Below w.heap.size w w1 := by rw [hW]; (first|exact bwg|go_size)
 have kM : w1.heap[w.heap.size]? = some (.cells #[.slice ab nb cb, .int .i64 st, .slice ag ng cg] 45) := by rw [hW]; exact heap_alloc_new _ _
 have HB1 := Lib.hid hb1
 clear hW hb1
 have HB := Lib.hid (Below.refl w1.heap.size w1)
 have km := blk_below kM HB.out
 have q0 : w1.cell? ⟨w.heap.size, 0, none⟩ = some (.slice ab nb cb) := blk_cell km (i := 0) rfl
 have q1 : w1.cell? ⟨w.heap.size, 1, none⟩ = some (.int .i64 st) := blk_cell km (i := 1) rfl
 have q2 : w1.cell? ⟨w.heap.size, 2, none⟩ = some (.slice ag ng cg) := blk_cell km (i := 2) rfl
 have lr0 := blk_lt km
 clear km
 refine later_of_eq 10 (by kernel_rfl) (by kernel_rfl) ?_; simp only [List.take_succ_cons, List.take_zero, List.drop_succ_cons, List.drop_zero]; repeat go_big_quiet_step (with_reducible exact calls_later_same (HU.out _ _ _))
 refine wpQuiet_nil ?_; intro w5 hb5
 replace HB := bwt HB hb5
 clear hb5
 clear q0 q1 q2 lr0
 have km := blk_below kM HB.out
 have q0 : w5.cell? ⟨w.heap.size, 0, none⟩ = some (.slice ab nb cb) := blk_cell km (i := 0) rfl
 have q1 : w5.cell? ⟨w.heap.size, 1, none⟩ = some (.int .i64 st) := blk_cell km (i := 1) rfl
 have q2 : w5.cell? ⟨w.heap.size, 2, none⟩ = some (.slice ag ng cg) := blk_cell km (i := 2) rfl
 have lr0 := blk_lt km
 clear km
 go_wp2_with fail
 refine (t_first2 _ _ _ _ _ _ (by rfl) (by simp)).mono ?_
 rintro e8 w8 ⟨rfl, hw8⟩
 have hb8 : Below w5.heap.size w5 w8 := by rw [← hw8]; (first|exact bwg|go_size)
 clear hw8
 replace HB := bwt HB hb8
 clear hb8
 clear q0 q1 q2 lr0
 have km := blk_below kM HB.out
 have q0 : w8.cell? ⟨w.heap.size, 0, none⟩ = some (.slice ab nb cb) := blk_cell km (i := 0) rfl
 have q1 : w8.cell? ⟨w.heap.size, 1, none⟩ = some (.int .i64 st) := blk_cell km (i := 1) rfl
 have q2 : w8.cell? ⟨w.heap.size, 2, none⟩ = some (.slice ag ng cg) := blk_cell km (i := 2) rfl
 have lr0 := blk_lt km
 clear km
 first | rw [← HH.out] | (have := HH.out; simp at this; rw [← this])
 by_cases h0 : H = 0
 ·subst h0
  obtain ⟨hn0, hn6⟩ := macH_zero.1 HHB.out
  rw [HLB.out] at hn0 hn6
  clear HH
  go_wp2_with fail
  have HB8 := Lib.hid HB.out
  clear q0 q1 q2 lr0
  go_loopw [30] (fun i wr => ∃ k : Nat, i = .int .i64 (k : Int) ∧ k ≤ nb ∧ Hid (firstAt (fun k => brnE (bAt br k)) (nb - k) k = firstAt (fun k => brnE (bAt br k)) br.length 0) ∧ Hid (Below w8.heap.size w8 wr)) (fun i _ => nb - (intOf i).toNat)
  case atStart => exact ⟨0, rfl, Nat.zero_le _, Lib.hid (by rw [HLB.out]; rfl), Lib.hid (Below.refl _ _)⟩
  case round =>
   clear HB
   obtain ⟨k, rfl, hk, hF, hB8⟩ := hrel
   have HB := bwt HB8 hB8.out
   have k0 : (0 : Int) ≤ (k : Int) := by omega
   by_cases hlt : k < nb
   ·have k1 : (k : Int) < (nb : Int) := by omega
    obtain ⟨bb, ob, rfl, hbb, hcc⟩ := (HBR.out _ (HB1.out.trans (HB.out.mono HB1.out.size))).addr (by omega)
    have km := blk_below kM HB.out
    have q0 : wr.cell? ⟨w.heap.size, 0, none⟩ = some (.slice (some ⟨bb, ob, none⟩) nb cb) := blk_cell km (i := 0) rfl
    have q1 : wr.cell? ⟨w.heap.size, 1, none⟩ = some (.int .i64 st) := blk_cell km (i := 1) rfl
    have q2 : wr.cell? ⟨w.heap.size, 2, none⟩ = some (.slice ag ng cg) := blk_cell km (i := 2) rfl
    have lr0 := blk_lt km
    clear km
    obtain ⟨c0, c1⟩ := hcc k hlt
    have hF' := hF.out
    rw [firstAt_step hlt] at hF'
    obtain ⟨⟨t, r⟩, hx⟩ : ∃ x, x = bAt br k := ⟨_, rfl⟩
    rw [← hx] at c0 c1 hF'
    simp only at c0 c1
    have W1 := Lib.hid (fun w' => HW.out t 0 1 w')
    have W2 := Lib.hid (fun w' => HW.out r 0 10 w')
    rw [show brnE ⟨t, r⟩ = unl (wi t 0 1 && wi r 0 10) 2 from rfl] at hF'
    clear hcc hx
    generalize wi t 0 1 = b3 at *
    generalize wi r 0 10 = b4 at *
    have HF := Lib.hid hF'
    clear hF' hF
    go_wp2_with fail
    obtain ⟨X6, hX6⟩ : ∃ X, X = wr.heap.size := ⟨_, rfl⟩
    rw [← hX6]
    obtain ⟨wa, hW⟩ : ∃ wa, wa = wr.alloc (Obj.cells #[.int .i64 t, .int .i64 r] 126) := ⟨_, rfl⟩
    rw [← hW]
    have hba : Below wr.heap.size wr wa := by rw [hW]; (first|exact bwg|go_size)
    have k6 : wa.heap[X6]? = some (.cells #[.int .i64 t, .int .i64 r] 126) := by rw [hW, hX6]; exact heap_alloc_new _ _
    replace hB8 := bwt hB8 hba
    clear hW hX6 c0 c1 hbb
    replace HB := bwt HB hba
    clear hba
    clear q0 q1 q2 lr0
    have km := blk_below kM HB.out
    have q0 : wa.cell? ⟨w.heap.size, 0, none⟩ = some (.slice (some ⟨bb, ob, none⟩) nb cb) := blk_cell km (i := 0) rfl
    have q1 : wa.cell? ⟨w.heap.size, 1, none⟩ = some (.int .i64 st) := blk_cell km (i := 1) rfl
    have q2 : wa.cell? ⟨w.heap.size, 2, none⟩ = some (.slice ag ng cg) := blk_cell km (i := 2) rfl
    have lr0 := blk_lt km
    clear km
    obtain ⟨g0, g1, l6⟩ := blkc2 k6
    clear k6
    go_wp2_with fail
    refine (W1.out _).mono ?_
    rintro e5 w5 ⟨rfl, rfl⟩
    cases b3
    ·have hH : macE ⟨br, st, gs⟩ = ((k : Int), 2) := by
       have e := HF.out
       rw [show unl (false && b4) 2 = 2 from rfl, if_pos (by decide)] at e
       rw [macE_b HHB.out (by show (firstAt (fun k => brnE (bAt br k)) br.length 0).2 ≠ 0; rw [← e]; exact (show (2 : Int) ≠ 0 by decide))]
       exact e.symm
     go_wp2
     go_ret2
     exact ⟨by have := HE.out.trans hH; simp only [Prod.mk.injEq] at this; rw [this.1, this.2]; rfl, HB1.out.trans (HB.out.mono HB1.out.size)⟩
    ·go_wp2_with fail
     refine (W2.out _).mono ?_
     rintro e5 w5 ⟨rfl, rfl⟩
     cases b4
     ·have hH : macE ⟨br, st, gs⟩ = ((k : Int), 2) := by
        have e := HF.out
        rw [show unl (true && false) 2 = 2 from rfl, if_pos (by decide)] at e
        rw [macE_b HHB.out (by show (firstAt (fun k => brnE (bAt br k)) br.length 0).2 ≠ 0; rw [← e]; exact (show (2 : Int) ≠ 0 by decide))]
        exact e.symm
      go_wp2
      go_ret2
      exact ⟨by have := HE.out.trans hH; simp only [Prod.mk.injEq] at this; rw [this.1, this.2]; rfl, HB1.out.trans (HB.out.mono HB1.out.size)⟩
     ·go_wp2_with fail
      go_roundw
      case rel => exact ⟨k + 1, by go_num, by omega, Lib.hid (by have e := HF.out; rw [show unl (true && true) 2 = 0 from rfl, if_neg (by decide)] at e; exact e), hB8⟩
      case measure => simp [intOf]; omega
   ·have HF0 := Lib.hid (show (firstAt (fun k => brnE (bAt br k)) br.length 0).2 = 0 by rw [← hF.out, firstAt_end (by omega)])
    clear hF
    have km := blk_below kM HB.out
    have q0 : wr.cell? ⟨w.heap.size, 0, none⟩ = some (.slice ab nb cb) := blk_cell km (i := 0) rfl
    have q1 : wr.cell? ⟨w.heap.size, 1, none⟩ = some (.int .i64 st) := blk_cell km (i := 1) rfl
    have q2 : wr.cell? ⟨w.heap.size, 2, none⟩ = some (.slice ag ng cg) := blk_cell km (i := 2) rfl
    have lr0 := blk_lt km
    clear km
    obtain ⟨K, hK⟩ : ∃ K, K = macK ⟨br, st, gs⟩ := ⟨_, rfl⟩
    have HKE := Lib.hid (show K = firstErr [unl (isS nb st) 2, unl (decide ((ng : Int) ≤ 30)) 8] by
     rw [hK]; unfold macK staE; simp only [HLB.out, HLG.out])
    have HKK := Lib.hid hK
    have HS := Lib.hid (fun (W : World) (hbw : Below wr.heap.size wr W) (n : Int) => cm1_any n w.heap.size nb cb ab W (by rw [cellB hbw _ _ lr0]; exact q0) (Nat.lt_of_lt_of_le lr0 hbw.size) (by omega))
    clear hK
    go_wp2_with fail
    refine later_of_eq 10 (by kernel_rfl) (by kernel_rfl) ?_; simp only [List.take_succ_cons, List.take_zero, List.drop_succ_cons, List.drop_zero]; repeat go_big_quiet_step (first | with_reducible exact calls_later_same (HU.out _ _ _) | with_reducible exact calls_later_same (HS.out _ (Later.below _) _))
    refine wpQuiet_nil ?_; intro w9 hb9
    replace HB := bwt HB hb9
    clear hb9
    clear q0 q1 q2 lr0
    have km := blk_below kM HB.out
    have q0 : w9.cell? ⟨w.heap.size, 0, none⟩ = some (.slice ab nb cb) := blk_cell km (i := 0) rfl
    have q1 : w9.cell? ⟨w.heap.size, 1, none⟩ = some (.int .i64 st) := blk_cell km (i := 1) rfl
    have q2 : w9.cell? ⟨w.heap.size, 2, none⟩ = some (.slice ag ng cg) := blk_cell km (i := 2) rfl
    have lr0 := blk_lt km
    clear km
    clear HS
    go_wp2_with fail
    refine (t_first2 _ _ _ _ _ _ (by rfl) (by simp)).mono ?_
    rintro e10 wq ⟨rfl, hwq⟩
    have hbq : Below w9.heap.size w9 wq := by rw [← hwq]; (first|exact bwg|go_size)
    clear hwq
    replace HB := bwt HB hbq
    clear hbq
    clear q0 q1 q2 lr0
    have km := blk_below kM HB.out
    have q0 : wq.cell? ⟨w.heap.size, 0, none⟩ = some (.slice ab nb cb) := blk_cell km (i := 0) rfl
    have q1 : wq.cell? ⟨w.heap.size, 1, none⟩ = some (.int .i64 st) := blk_cell km (i := 1) rfl
    have q2 : wq.cell? ⟨w.heap.size, 2, none⟩ = some (.slice ag ng cg) := blk_cell km (i := 2) rfl
    have lr0 := blk_lt km
    clear km
    first | rw [← HKE.out] | (have := HKE.out; simp at this; rw [← this])
    clear HKE
    by_cases h3 : K = 0
    ·subst h3
     have HG := Lib.hid (show macE ⟨br, st, gs⟩ = firstAt (fun k => grdE nb (gAt gs k)) ng 0 by
      have e := macE_g (m := ⟨br, st, gs⟩) HHB.out HF0.out HKK.out.symm
      simp only [HLB.out, HLG.out] at e
      exact e)
     have hg30 : ng ≤ 30 := by
      have e := HKK.out.symm
      unfold macK at e
      rw [firstErr_cons, firstErr_cons, unl_eq_zero (by decide), decide_eq_true_eq] at e
      have := e.2.1
      simp only [HLG.out] at this
      omega
     clear HF0 HHB HKK
     go_wp2_with fail
     have HBq := Lib.hid HB.out
     clear q0 q1 q2 lr0
     go_loopw [66] (fun i wr => ∃ k : Nat, i = .int .i64 (k : Int) ∧ k ≤ ng ∧ Hid (firstAt (fun k => grdE nb (gAt gs k)) (ng - k) k = macE ⟨br, st, gs⟩) ∧ Hid (Below wq.heap.size wq wr)) (fun i _ => ng - (intOf i).toNat)
     case atStart => exact ⟨0, rfl, Nat.zero_le _, Lib.hid HG.out.symm, Lib.hid (Below.refl _ _)⟩
     case round =>
      clear HB
      obtain ⟨j, rfl, hj, hF, hBq⟩ := hrel
      have HB := bwt HBq hBq.out
      have j0 : (0 : Int) ≤ (j : Int) := by omega
      by_cases hlj : j < ng
      ·have j1 : (j : Int) < (ng : Int) := by omega
       obtain ⟨bb, ob, rfl, hbb, hcc⟩ := (HGR.out _ (HB1.out.trans (HB.out.mono HB1.out.size))).addr (by omega)
       have km := blk_below kM HB.out
       have q0 : wr.cell? ⟨w.heap.size, 0, none⟩ = some (.slice ab nb cb) := blk_cell km (i := 0) rfl
       have q1 : wr.cell? ⟨w.heap.size, 1, none⟩ = some (.int .i64 st) := blk_cell km (i := 1) rfl
       have q2 : wr.cell? ⟨w.heap.size, 2, none⟩ = some (.slice (some ⟨bb, ob, none⟩) ng cg) := blk_cell km (i := 2) rfl
       have lr0 := blk_lt km
       clear km
       obtain ⟨c0, c1, c2, c3⟩ := hcc j hlj
       have hF' := hF.out
       rw [firstAt_step hlj] at hF'
       obtain ⟨⟨gc, gl, gi, go⟩, hx⟩ : ∃ x, x = gAt gs j := ⟨_, rfl⟩
       rw [← hx] at c0 c1 c2 c3 hF'
       simp only at c0 c1 c2 c3
       obtain ⟨V, hV⟩ : ∃ V, V = grdE nb ⟨gc, gl, gi, go⟩ := ⟨_, rfl⟩
       rw [← hV] at hF'
       have HF := Lib.hid hF'
       have hV2 : V = firstErr [unl (wi gc 0 ((nb : Int) - 1)) 6, unl (isS nb gi && isS nb go) 2] := hV
       have W1 := Lib.hid (fun w' => HW.out gc 0 ((nb : Int) - 1) w')
       have w2 : IntKind.i64.wrap ((nb : Int) - 1) = (nb : Int) - 1 := by rw [IntKind.wrap_i64]; omega
       clear hcc hx hF' hF hV
       go_wp2_with fail
       obtain ⟨X6, hX6⟩ : ∃ X, X = wr.heap.size := ⟨_, rfl⟩
       rw [← hX6]
       obtain ⟨wa, hW⟩ : ∃ wa, wa = wr.alloc (Obj.cells #[.int .i64 gc, .bool gl, .int .i64 gi, .int .i64 go] 77) := ⟨_, rfl⟩
       rw [← hW]
       have hba : Below wr.heap.size wr wa := by rw [hW]; (first|exact bwg|go_size)
       have k6 : wa.heap[X6]? = some (.cells #[.int .i64 gc, .bool gl, .int .i64 gi, .int .i64 go] 77) := by rw [hW, hX6]; exact heap_alloc_new _ _
       replace hBq := bwt hBq hba
       clear hW hX6 c0 c1 c2 c3 hbb
       replace HB := bwt HB hba
       clear hba
       clear q0 q1 q2 lr0
       have km := blk_below kM HB.out
       have q0 : wa.cell? ⟨w.heap.size, 0, none⟩ = some (.slice ab nb cb) := blk_cell km (i := 0) rfl
       have q1 : wa.cell? ⟨w.heap.size, 1, none⟩ = some (.int .i64 st) := blk_cell km (i := 1) rfl
       have q2 : wa.cell? ⟨w.heap.size, 2, none⟩ = some (.slice (some ⟨bb, ob, none⟩) ng cg) := blk_cell km (i := 2) rfl
       have lr0 := blk_lt km
       clear km
       have g0 := blk_cell k6 (i := 0) rfl
       have g2 := blk_cell k6 (i := 2) rfl
       have g3 := blk_cell k6 (i := 3) rfl
       have l6 := blk_lt k6
       clear k6
       have HS1 := Lib.hid (fun (W : World) (hbw : Below wa.heap.size wa W) => cm1_any gi w.heap.size nb cb ab W (by rw [cellB hbw _ _ lr0]; exact q0) (Nat.lt_of_lt_of_le lr0 hbw.size) (by omega))
       have HS2 := Lib.hid (fun (W : World) (hbw : Below wa.heap.size wa W) => cm1_any go w.heap.size nb cb ab W (by rw [cellB hbw _ _ lr0]; exact q0) (Nat.lt_of_lt_of_le lr0 hbw.size) (by omega))
       generalize isS nb gi = b1 at *
       generalize isS nb go = b2 at *
       generalize wi gc 0 ((nb : Int) - 1) = b0 at *
       have HV := Lib.hid hV2
       clear hV2
       cases b1
       ·skip
        go_wp2_with fail
        refine later_of_eq 19 (by kernel_rfl) (by kernel_rfl) ?_; simp only [List.take_succ_cons, List.take_zero, List.drop_succ_cons, List.drop_zero]; repeat go_big_quiet_step (first | with_reducible exact calls_later_same (W1.out _) | with_reducible exact calls_later_same (HS1.out _ (Later.below _)) | with_reducible exact calls_later_same (HS2.out _ (Later.below _)) | with_reducible exact calls_later_same (HU.out _ _ _))
        refine wpQuiet_nil ?_; intro wb hbb
        replace hBq := bwt hBq hbb
        clear g0 g2 g3 l6 HS1 HS2 w2
        replace HB := bwt HB hbb
        clear hbb
        clear q0 q1 q2 lr0
        have km := blk_below kM HB.out
        have q0 : wb.cell? ⟨w.heap.size, 0, none⟩ = some (.slice ab nb cb) := blk_cell km (i := 0) rfl
        have q1 : wb.cell? ⟨w.heap.size, 1, none⟩ = some (.int .i64 st) := blk_cell km (i := 1) rfl
        have q2 : wb.cell? ⟨w.heap.size, 2, none⟩ = some (.slice (some ⟨bb, ob, none⟩) ng cg) := blk_cell km (i := 2) rfl
        have lr0 := blk_lt km
        clear km
        go_wp2_with fail
        refine (t_first2 _ _ _ _ _ _ (by rfl) (by simp)).mono ?_
        rintro e11 wv ⟨rfl, hwv⟩
        have hbv : Below wb.heap.size wb wv := by rw [← hwv]; (first|exact bwg|go_size)
        replace hBq := bwt hBq hbv
        clear hwv
        replace HB := bwt HB hbv
        clear hbv
        clear q0 q1 q2 lr0
        have km := blk_below kM HB.out
        have q0 : wv.cell? ⟨w.heap.size, 0, none⟩ = some (.slice ab nb cb) := blk_cell km (i := 0) rfl
        have q1 : wv.cell? ⟨w.heap.size, 1, none⟩ = some (.int .i64 st) := blk_cell km (i := 1) rfl
        have q2 : wv.cell? ⟨w.heap.size, 2, none⟩ = some (.slice (some ⟨bb, ob, none⟩) ng cg) := blk_cell km (i := 2) rfl
        have lr0 := blk_lt km
        clear km
        rw [show firstErr [unl b0 6, unl false 2] = V by rw [HV.out]; rfl]
        by_cases hv0 : V = 0
        ·subst hv0
         go_wp2_with fail
         go_roundw
         case rel => exact ⟨j + 1, by go_num, by omega, Lib.hid (by have e := HF.out; rw [if_neg (by decide)] at e; exact e), hBq⟩
         case measure => simp [intOf]; omega
        ·have e2 := bne_iff_ne.2 hv0
         have hH : macE ⟨br, st, gs⟩ = ((j : Int), V) := by have e := HF.out; rw [if_pos hv0] at e; exact e.symm
         clear hv0
         go_wp2
         go_ret2
         exact ⟨by have := HE.out.trans hH; simp only [Prod.mk.injEq] at this; rw [this.1, this.2]; rfl, HB1.out.trans (HB.out.mono HB1.out.size)⟩
       ·skip
        go_wp2_with fail
        refine later_of_eq 19 (by kernel_rfl) (by kernel_rfl) ?_; simp only [List.take_succ_cons, List.take_zero, List.drop_succ_cons, List.drop_zero]; repeat go_big_quiet_step (first | with_reducible exact calls_later_same (W1.out _) | with_reducible exact calls_later_same (HS1.out _ (Later.below _)) | with_reducible exact calls_later_same (HS2.out _ (Later.below _)) | with_reducible exact calls_later_same (HU.out _ _ _))
        refine wpQuiet_nil ?_; intro wb hbb
        replace hBq := bwt hBq hbb
        clear g0 g2 g3 l6 HS1 HS2 w2
        replace HB := bwt HB hbb
        clear hbb
        clear q0 q1 q2 lr0
        have km := blk_below kM HB.out
        have q0 : wb.cell? ⟨w.heap.size, 0, none⟩ = some (.slice ab nb cb) := blk_cell km (i := 0) rfl
        have q1 : wb.cell? ⟨w.heap.size, 1, none⟩ = some (.int .i64 st) := blk_cell km (i := 1) rfl
        have q2 : wb.cell? ⟨w.heap.size, 2, none⟩ = some (.slice (some ⟨bb, ob, none⟩) ng cg) := blk_cell km (i := 2) rfl
        have lr0 := blk_lt km
        clear km
        go_wp2_with fail
        refine (t_first2 _ _ _ _ _ _ (by rfl) (by simp)).mono ?_
        rintro e11 wv ⟨rfl, hwv⟩
        have hbv : Below wb.heap.size wb wv := by rw [← hwv]; (first|exact bwg|go_size)
        replace hBq := bwt hBq hbv
        clear hwv
        replace HB := bwt HB hbv
        clear hbv
        clear q0 q1 q2 lr0
        have km := blk_below kM HB.out
        have q0 : wv.cell? ⟨w.heap.size, 0, none⟩ = some (.slice ab nb cb) := blk_cell km (i := 0) rfl
        have q1 : wv.cell? ⟨w.heap.size, 1, none⟩ = some (.int .i64 st) := blk_cell km (i := 1) rfl
        have q2 : wv.cell? ⟨w.heap.size, 2, none⟩ = some (.slice (some ⟨bb, ob, none⟩) ng cg) := blk_cell km (i := 2) rfl
        have lr0 := blk_lt km
        clear km
        rw [show firstErr [unl b0 6, unl b2 2] = V by rw [HV.out]; rfl]
        by_cases hv0 : V = 0
        ·subst hv0
         go_wp2_with fail
         go_roundw
         case rel => exact ⟨j + 1, by go_num, by omega, Lib.hid (by have e := HF.out; rw [if_neg (by decide)] at e; exact e), hBq⟩
         case measure => simp [intOf]; omega
        ·have e2 := bne_iff_ne.2 hv0
         have hH : macE ⟨br, st, gs⟩ = ((j : Int), V) := by have e := HF.out; rw [if_pos hv0] at e; exact e.symm
         clear hv0
         go_wp2
         go_ret2
         exact ⟨by have := HE.out.trans hH; simp only [Prod.mk.injEq] at this; rw [this.1, this.2]; rfl, HB1.out.trans (HB.out.mono HB1.out.size)⟩
      ·have hH : macE ⟨br, st, gs⟩ = (0, 0) := by rw [← hF.out, firstAt_end (by omega)]
       clear hF
       have km := blk_below kM HB.out
       have q0 : wr.cell? ⟨w.heap.size, 0, none⟩ = some (.slice ab nb cb) := blk_cell km (i := 0) rfl
       have q1 : wr.cell? ⟨w.heap.size, 1, none⟩ = some (.int .i64 st) := blk_cell km (i := 1) rfl
       have q2 : wr.cell? ⟨w.heap.size, 2, none⟩ = some (.slice ag ng cg) := blk_cell km (i := 2) rfl
       have lr0 := blk_lt km
       clear km
       go_wp2
       go_ret2
       exact ⟨by have := HE.out.trans hH; simp only [Prod.mk.injEq] at this; rw [this.1, this.2]; rfl, HB1.out.trans (HB.out.mono HB1.out.size)⟩
    ·have e1 := bne_iff_ne.2 h3
     have hH : macE ⟨br, st, gs⟩ = (0, K) := by
      rw [macE_k HHB.out HF0.out (by rw [← HKK.out]; exact h3), ← HKK.out]
     clear h3
     go_wp2
     go_ret2
     exact ⟨by have := HE.out.trans hH; simp only [Prod.mk.injEq] at this; rw [this.1, this.2]; rfl, HB1.out.trans (HB.out.mono HB1.out.size)⟩
 ·have e1 := bne_iff_ne.2 h0
  have hH : macE ⟨br, st, gs⟩ = (0, H) := by
   have e := macE_h (m := ⟨br, st, gs⟩) (by show macH br.length ≠ 0; rw [HHB.out]; exact h0)
   rw [e]
   show (0, macH br.length) = _
   rw [HHB.out]
  clear h0
  go_wp2
  go_ret2
  exact ⟨by have := HE.out.trans hH; simp only [Prod.mk.injEq] at this; rw [this.1, this.2]; rfl, HB1.out.trans (HB.out.mono HB1.out.size)⟩
end Go.Proofs.YtdjinmieogpgcaaGreat
