import Derived.Test.YtidboecjllaofaaGreatBSchedT
/- Machines and limits: the program's checks. -/
namespace Go.Proofs.YtidboecjllaofaaGreat
open Go.RowKit
set_option linter.unusedVariables false
set_option linter.unusedSimpArgs false
theorem cm1_any (n : Int) (X nb cb : Nat) (ab : Option Addr) (w : World) (h : w.cell? ⟨X, 0, none⟩ = some (.slice ab nb cb)) (hX : X < w.heap.size) (hn : nb ≤ 8) :
    Calls Tryz.prog 120 #[.int .i64 n, .pointer (some ⟨X, 0, none⟩)] w fun e' w' => e' = .returned (.bool (isS nb n)) ∧ w = w' := by
 obtain ⟨p, hp, w1, w2, p1, p2⟩ := pow_wrap hn
 have n0 : (0 : Int) ≤ (nb : Int) := by omega
 have n1 : (nb : Int) ≤ 64 := by omega
 have n2 : ((nb : Int)).toNat = nb := by omega
 unfold isS
 rw [← hp]
 have HW := Lib.hid (fun w' => t_within_any n 0 (p - 1) w')
 clear hp
 generalize wi n 0 (p - 1) = b at *
 go_enter Tryz.func120, Tryz.ntmps120
 go_wp2_with fail
 refine (HW.out _).mono ?_
 rintro e5 w5 ⟨rfl, rfl⟩
 go_wp2
 go_ret
 exact ⟨rfl, rfl⟩
theorem loadE_any (s : Int) (w : World) : Calls Tryz.prog 134 #[.int .i64 s] w fun e' w' => e' = .returned (.int .i64 (loaE s)) ∧ w = w' := by
 have HS := Lib.hid (fun W => t_small_any s 1000 W (by omega) (by omega))
 unfold loaE
 generalize wi s (-1000) 1000 = b at *
 go_enter Tryz.func134, Tryz.ntmps134
 go_wp2_with fail
 refine (HS.out _).mono ?_
 rintro e5 w5 ⟨rfl, rfl⟩
 go_wp2_with fail
 refine (t_unless_any _ _ _).mono ?_
 rintro e6 w6 ⟨rfl, rfl⟩
 go_wp2
 go_ret
 exact ⟨rfl, rfl⟩
theorem cl1_any (n : Int) (w : World) : Calls Tryz.prog 110 #[.int .i64 n] w fun e' w' => e' = .returned (.bool (wi n 0 1000)) ∧ w = w' := by
 have HS := Lib.hid (fun W => t_within_any n 0 1000 W)
 generalize wi n 0 1000 = b at *
 go_enter Tryz.func110, Tryz.ntmps110
 go_wp2_with fail
 refine (HS.out _).mono ?_
 rintro e5 w5 ⟨rfl, rfl⟩
 go_wp2
 go_ret
 exact ⟨rfl, rfl⟩
theorem cl2_any (n : Int) (w : World) : Calls Tryz.prog 112 #[.int .i64 n] w fun e' w' => e' = .returned (.bool (wi n (-1000) 1000)) ∧ w = w' := by
 have HS := Lib.hid (fun W => t_small_any n 1000 W (by omega) (by omega))
 generalize wi n (-1000) 1000 = b at *
 go_enter Tryz.func112, Tryz.ntmps112
 go_wp2_with fail
 refine (HS.out _).mono ?_
 rintro e5 w5 ⟨rfl, rfl⟩
 go_wp2
 go_ret
 exact ⟨rfl, rfl⟩
theorem m_staE_any (x : Int) (nb cb ng cg : Nat) (ab ag : Option Addr) (s : Int) (w : World) (hn : nb ≤ 8) :
    Calls Tryz.prog 122 #[.agg #[.slice ab nb cb, .int .i64 x, .slice ag ng cg], .int .i64 s] w fun e' w' => e' = .returned (.int .i64 (staE nb s)) ∧ Below w.heap.size w w' := by
 obtain ⟨p, hp, w1, w2, p1, p2⟩ := pow_wrap hn
 have n0 : (0 : Int) ≤ (nb : Int) := by omega
 have n1 : (nb : Int) ≤ 64 := by omega
 have n2 : ((nb : Int)).toNat = nb := by omega
 unfold staE isS
 rw [← hp]
 have HW := Lib.hid (fun w' => t_within_any s 0 (p - 1) w')
 clear hp
 generalize wi s 0 (p - 1) = b at *
 go_enter Tryz.func122, Tryz.ntmps122
 go_wp2_with fail
 refine (HW.out _).mono ?_
 rintro e5 w5 ⟨rfl, rfl⟩
 go_wp2_with fail
 refine (t_unless_any _ _ _).mono ?_
 rintro e6 w6 ⟨rfl, rfl⟩
 go_wp2
 go_ret
 exact ⟨rfl, by (repeat' first|(with_reducible first|exact bw1|assumption|refine bw2 ?_ _|refine bw3 ?_ ?_ _|refine bw4 ?_|refine bw5 ?_ ?_ _|refine bw6 (by assumption) ?_ ?_|exact And.left (by assumption))|go_size)⟩
theorem m_conE_any (x : Int) (nb cb ng cg : Nat) (ab ag : Option Addr) (s : Int) (w : World) (hn : nb ≤ 9223372036854775807) :
    Calls Tryz.prog 133 #[.agg #[.slice ab nb cb, .int .i64 x, .slice ag ng cg], .int .i64 s] w fun e' w' => e' = .returned (.int .i64 (conE nb s)) ∧ Below w.heap.size w w' := by
 have w2 : IntKind.i64.wrap ((nb : Int) - 1) = (nb : Int) - 1 := by rw [IntKind.wrap_i64]; omega
 unfold conE
 have HW := Lib.hid (fun w' => t_within_any s 0 ((nb : Int) - 1) w')
 generalize wi s 0 ((nb : Int) - 1) = b at *
 go_enter Tryz.func133, Tryz.ntmps133
 go_wp2_with fail
 refine (HW.out _).mono ?_
 rintro e5 w5 ⟨rfl, rfl⟩
 go_wp2_with fail
 refine (t_unless_any _ _ _).mono ?_
 rintro e6 w6 ⟨rfl, rfl⟩
 go_wp2
 go_ret
 exact ⟨rfl, by (repeat' first|(with_reducible first|exact bw1|assumption|refine bw2 ?_ _|refine bw3 ?_ ?_ _|refine bw4 ?_|refine bw5 ?_ ?_ _|refine bw6 (by assumption) ?_ ?_|exact And.left (by assumption))|go_size)⟩
set_option maxHeartbeats 2000000 in
set_option maxRecDepth 100000 in
theorem checkLimits_any (l : Lim) (w : World) : Calls Tryz.prog 40 #[.agg #[.int .i64 l.volt, .int .i64 l.lo, .int .i64 l.hi, .int .i64 l.circ, .int .i64 l.brk, .int .i64 l.ret]] w fun e' w' => e' = .returned (.int .i64 (limE l)) ∧ Below w.heap.size w w' := by
 unfold limE
 obtain ⟨vo, lo, hi, ci, br, re⟩ := l
 simp only
 have H1 := Lib.hid (fun w' => cl1_any vo w')
 have H2 := Lib.hid (fun w' => cl2_any lo w')
 have H3 := Lib.hid (fun w' => cl2_any hi w')
 have H4 := Lib.hid (fun w' => cl1_any ci w')
 have H5 := Lib.hid (fun w' => cl1_any br w')
 have H6 := Lib.hid (fun w' => cl1_any re w')
 have HU := Lib.hid (fun (b : Bool) (e : Int) w' => t_unless_any b e w')
 generalize wi vo 0 1000 = b1 at *
 generalize wi lo (-1000) 1000 = b2 at *
 generalize wi hi (-1000) 1000 = b3 at *
 generalize wi ci 0 1000 = b4 at *
 generalize wi br 0 1000 = b5 at *
 generalize wi re 0 1000 = b6 at *
 obtain ⟨V, hV⟩ : ∃ V, V = firstErr [unl (b1 && b2 && b3) 2, unl (decide (lo ≤ hi)) 9, unl (b4 && b5 && b6) 2] := ⟨_, rfl⟩
 have HV := Lib.hid hV
 rw [← hV]
 clear hV
 go_enter Tryz.func40, Tryz.ntmps40
 go_wp2_with fail
 cases b1
 ·cases b4
  ·skip
   refine later_of_eq 44 (by kernel_rfl) (by kernel_rfl) ?_; simp only [List.take_succ_cons, List.take_zero, List.drop_succ_cons, List.drop_zero]; repeat go_big_quiet_step (first | with_reducible exact calls_later_same (H1.out _) | with_reducible exact calls_later_same (H2.out _) | with_reducible exact calls_later_same (H3.out _) | with_reducible exact calls_later_same (H4.out _) | with_reducible exact calls_later_same (H5.out _) | with_reducible exact calls_later_same (H6.out _) | with_reducible exact calls_later_same (HU.out _ _ _))
   refine wpQuiet_nil ?_; intro w5 hb5
   have HB5 := Lib.hid (show Below w.heap.size w w5 by (repeat' first|(with_reducible first|exact bw1|assumption|refine bw2 ?_ _|refine bw3 ?_ ?_ _|refine bw4 ?_|refine bw5 ?_ ?_ _|refine bw6 (by assumption) ?_ ?_|exact And.left (by assumption))|go_size))
   clear hb5
   go_wp2_with fail
   refine (t_first3 _ _ _ _ _ _ _ (by rfl) (by simp)).mono ?_
   rintro e8 w8 ⟨rfl, hw8⟩
   have HB8 := Lib.hid (show Below w.heap.size w w8 from HB5.out.trans ((show Below w5.heap.size w5 w8 by rw [← hw8]; (repeat' first|(with_reducible first|exact bw1|assumption|refine bw2 ?_ _|refine bw3 ?_ ?_ _|refine bw4 ?_|refine bw5 ?_ ?_ _|refine bw6 (by assumption) ?_ ?_|exact And.left (by assumption))|go_size)).mono HB5.out.size))
   clear hw8
   go_wp2
   go_ret
   exact ⟨ret_int (by rw [HV.out]; simp), HB8.out⟩
  ·cases b5
   ·skip
    refine later_of_eq 44 (by kernel_rfl) (by kernel_rfl) ?_; simp only [List.take_succ_cons, List.take_zero, List.drop_succ_cons, List.drop_zero]; repeat go_big_quiet_step (first | with_reducible exact calls_later_same (H1.out _) | with_reducible exact calls_later_same (H2.out _) | with_reducible exact calls_later_same (H3.out _) | with_reducible exact calls_later_same (H4.out _) | with_reducible exact calls_later_same (H5.out _) | with_reducible exact calls_later_same (H6.out _) | with_reducible exact calls_later_same (HU.out _ _ _))
    refine wpQuiet_nil ?_; intro w5 hb5
    have HB5 := Lib.hid (show Below w.heap.size w w5 by (repeat' first|(with_reducible first|exact bw1|assumption|refine bw2 ?_ _|refine bw3 ?_ ?_ _|refine bw4 ?_|refine bw5 ?_ ?_ _|refine bw6 (by assumption) ?_ ?_|exact And.left (by assumption))|go_size))
    clear hb5
    go_wp2_with fail
    refine (t_first3 _ _ _ _ _ _ _ (by rfl) (by simp)).mono ?_
    rintro e8 w8 ⟨rfl, hw8⟩
    have HB8 := Lib.hid (show Below w.heap.size w w8 from HB5.out.trans ((show Below w5.heap.size w5 w8 by rw [← hw8]; (repeat' first|(with_reducible first|exact bw1|assumption|refine bw2 ?_ _|refine bw3 ?_ ?_ _|refine bw4 ?_|refine bw5 ?_ ?_ _|refine bw6 (by assumption) ?_ ?_|exact And.left (by assumption))|go_size)).mono HB5.out.size))
    clear hw8
    go_wp2
    go_ret
    exact ⟨ret_int (by rw [HV.out]; simp), HB8.out⟩
   ·skip
    refine later_of_eq 44 (by kernel_rfl) (by kernel_rfl) ?_; simp only [List.take_succ_cons, List.take_zero, List.drop_succ_cons, List.drop_zero]; repeat go_big_quiet_step (first | with_reducible exact calls_later_same (H1.out _) | with_reducible exact calls_later_same (H2.out _) | with_reducible exact calls_later_same (H3.out _) | with_reducible exact calls_later_same (H4.out _) | with_reducible exact calls_later_same (H5.out _) | with_reducible exact calls_later_same (H6.out _) | with_reducible exact calls_later_same (HU.out _ _ _))
    refine wpQuiet_nil ?_; intro w5 hb5
    have HB5 := Lib.hid (show Below w.heap.size w w5 by (repeat' first|(with_reducible first|exact bw1|assumption|refine bw2 ?_ _|refine bw3 ?_ ?_ _|refine bw4 ?_|refine bw5 ?_ ?_ _|refine bw6 (by assumption) ?_ ?_|exact And.left (by assumption))|go_size))
    clear hb5
    go_wp2_with fail
    refine (t_first3 _ _ _ _ _ _ _ (by rfl) (by simp)).mono ?_
    rintro e8 w8 ⟨rfl, hw8⟩
    have HB8 := Lib.hid (show Below w.heap.size w w8 from HB5.out.trans ((show Below w5.heap.size w5 w8 by rw [← hw8]; (repeat' first|(with_reducible first|exact bw1|assumption|refine bw2 ?_ _|refine bw3 ?_ ?_ _|refine bw4 ?_|refine bw5 ?_ ?_ _|refine bw6 (by assumption) ?_ ?_|exact And.left (by assumption))|go_size)).mono HB5.out.size))
    clear hw8
    go_wp2
    go_ret
    exact ⟨ret_int (by rw [HV.out]; simp), HB8.out⟩
 ·cases b2
  ·cases b4
   ·skip
    refine later_of_eq 44 (by kernel_rfl) (by kernel_rfl) ?_; simp only [List.take_succ_cons, List.take_zero, List.drop_succ_cons, List.drop_zero]; repeat go_big_quiet_step (first | with_reducible exact calls_later_same (H1.out _) | with_reducible exact calls_later_same (H2.out _) | with_reducible exact calls_later_same (H3.out _) | with_reducible exact calls_later_same (H4.out _) | with_reducible exact calls_later_same (H5.out _) | with_reducible exact calls_later_same (H6.out _) | with_reducible exact calls_later_same (HU.out _ _ _))
    refine wpQuiet_nil ?_; intro w5 hb5
    have HB5 := Lib.hid (show Below w.heap.size w w5 by (repeat' first|(with_reducible first|exact bw1|assumption|refine bw2 ?_ _|refine bw3 ?_ ?_ _|refine bw4 ?_|refine bw5 ?_ ?_ _|refine bw6 (by assumption) ?_ ?_|exact And.left (by assumption))|go_size))
    clear hb5
    go_wp2_with fail
    refine (t_first3 _ _ _ _ _ _ _ (by rfl) (by simp)).mono ?_
    rintro e8 w8 ⟨rfl, hw8⟩
    have HB8 := Lib.hid (show Below w.heap.size w w8 from HB5.out.trans ((show Below w5.heap.size w5 w8 by rw [← hw8]; (repeat' first|(with_reducible first|exact bw1|assumption|refine bw2 ?_ _|refine bw3 ?_ ?_ _|refine bw4 ?_|refine bw5 ?_ ?_ _|refine bw6 (by assumption) ?_ ?_|exact And.left (by assumption))|go_size)).mono HB5.out.size))
    clear hw8
    go_wp2
    go_ret
    exact ⟨ret_int (by rw [HV.out]; simp), HB8.out⟩
   ·cases b5
    ·skip
     refine later_of_eq 44 (by kernel_rfl) (by kernel_rfl) ?_; simp only [List.take_succ_cons, List.take_zero, List.drop_succ_cons, List.drop_zero]; repeat go_big_quiet_step (first | with_reducible exact calls_later_same (H1.out _) | with_reducible exact calls_later_same (H2.out _) | with_reducible exact calls_later_same (H3.out _) | with_reducible exact calls_later_same (H4.out _) | with_reducible exact calls_later_same (H5.out _) | with_reducible exact calls_later_same (H6.out _) | with_reducible exact calls_later_same (HU.out _ _ _))
     refine wpQuiet_nil ?_; intro w5 hb5
     have HB5 := Lib.hid (show Below w.heap.size w w5 by (repeat' first|(with_reducible first|exact bw1|assumption|refine bw2 ?_ _|refine bw3 ?_ ?_ _|refine bw4 ?_|refine bw5 ?_ ?_ _|refine bw6 (by assumption) ?_ ?_|exact And.left (by assumption))|go_size))
     clear hb5
     go_wp2_with fail
     refine (t_first3 _ _ _ _ _ _ _ (by rfl) (by simp)).mono ?_
     rintro e8 w8 ⟨rfl, hw8⟩
     have HB8 := Lib.hid (show Below w.heap.size w w8 from HB5.out.trans ((show Below w5.heap.size w5 w8 by rw [← hw8]; (repeat' first|(with_reducible first|exact bw1|assumption|refine bw2 ?_ _|refine bw3 ?_ ?_ _|refine bw4 ?_|refine bw5 ?_ ?_ _|refine bw6 (by assumption) ?_ ?_|exact And.left (by assumption))|go_size)).mono HB5.out.size))
     clear hw8
     go_wp2
     go_ret
     exact ⟨ret_int (by rw [HV.out]; simp), HB8.out⟩
    ·skip
     refine later_of_eq 44 (by kernel_rfl) (by kernel_rfl) ?_; simp only [List.take_succ_cons, List.take_zero, List.drop_succ_cons, List.drop_zero]; repeat go_big_quiet_step (first | with_reducible exact calls_later_same (H1.out _) | with_reducible exact calls_later_same (H2.out _) | with_reducible exact calls_later_same (H3.out _) | with_reducible exact calls_later_same (H4.out _) | with_reducible exact calls_later_same (H5.out _) | with_reducible exact calls_later_same (H6.out _) | with_reducible exact calls_later_same (HU.out _ _ _))
     refine wpQuiet_nil ?_; intro w5 hb5
     have HB5 := Lib.hid (show Below w.heap.size w w5 by (repeat' first|(with_reducible first|exact bw1|assumption|refine bw2 ?_ _|refine bw3 ?_ ?_ _|refine bw4 ?_|refine bw5 ?_ ?_ _|refine bw6 (by assumption) ?_ ?_|exact And.left (by assumption))|go_size))
     clear hb5
     go_wp2_with fail
     refine (t_first3 _ _ _ _ _ _ _ (by rfl) (by simp)).mono ?_
     rintro e8 w8 ⟨rfl, hw8⟩
     have HB8 := Lib.hid (show Below w.heap.size w w8 from HB5.out.trans ((show Below w5.heap.size w5 w8 by rw [← hw8]; (repeat' first|(with_reducible first|exact bw1|assumption|refine bw2 ?_ _|refine bw3 ?_ ?_ _|refine bw4 ?_|refine bw5 ?_ ?_ _|refine bw6 (by assumption) ?_ ?_|exact And.left (by assumption))|go_size)).mono HB5.out.size))
     clear hw8
     go_wp2
     go_ret
     exact ⟨ret_int (by rw [HV.out]; simp), HB8.out⟩
  ·cases b4
   ·skip
    refine later_of_eq 44 (by kernel_rfl) (by kernel_rfl) ?_; simp only [List.take_succ_cons, List.take_zero, List.drop_succ_cons, List.drop_zero]; repeat go_big_quiet_step (first | with_reducible exact calls_later_same (H1.out _) | with_reducible exact calls_later_same (H2.out _) | with_reducible exact calls_later_same (H3.out _) | with_reducible exact calls_later_same (H4.out _) | with_reducible exact calls_later_same (H5.out _) | with_reducible exact calls_later_same (H6.out _) | with_reducible exact calls_later_same (HU.out _ _ _))
    refine wpQuiet_nil ?_; intro w5 hb5
    have HB5 := Lib.hid (show Below w.heap.size w w5 by (repeat' first|(with_reducible first|exact bw1|assumption|refine bw2 ?_ _|refine bw3 ?_ ?_ _|refine bw4 ?_|refine bw5 ?_ ?_ _|refine bw6 (by assumption) ?_ ?_|exact And.left (by assumption))|go_size))
    clear hb5
    go_wp2_with fail
    refine (t_first3 _ _ _ _ _ _ _ (by rfl) (by simp)).mono ?_
    rintro e8 w8 ⟨rfl, hw8⟩
    have HB8 := Lib.hid (show Below w.heap.size w w8 from HB5.out.trans ((show Below w5.heap.size w5 w8 by rw [← hw8]; (repeat' first|(with_reducible first|exact bw1|assumption|refine bw2 ?_ _|refine bw3 ?_ ?_ _|refine bw4 ?_|refine bw5 ?_ ?_ _|refine bw6 (by assumption) ?_ ?_|exact And.left (by assumption))|go_size)).mono HB5.out.size))
    clear hw8
    go_wp2
    go_ret
    exact ⟨ret_int (by rw [HV.out]; simp), HB8.out⟩
   ·cases b5
    ·skip
     refine later_of_eq 44 (by kernel_rfl) (by kernel_rfl) ?_; simp only [List.take_succ_cons, List.take_zero, List.drop_succ_cons, List.drop_zero]; repeat go_big_quiet_step (first | with_reducible exact calls_later_same (H1.out _) | with_reducible exact calls_later_same (H2.out _) | with_reducible exact calls_later_same (H3.out _) | with_reducible exact calls_later_same (H4.out _) | with_reducible exact calls_later_same (H5.out _) | with_reducible exact calls_later_same (H6.out _) | with_reducible exact calls_later_same (HU.out _ _ _))
     refine wpQuiet_nil ?_; intro w5 hb5
     have HB5 := Lib.hid (show Below w.heap.size w w5 by (repeat' first|(with_reducible first|exact bw1|assumption|refine bw2 ?_ _|refine bw3 ?_ ?_ _|refine bw4 ?_|refine bw5 ?_ ?_ _|refine bw6 (by assumption) ?_ ?_|exact And.left (by assumption))|go_size))
     clear hb5
     go_wp2_with fail
     refine (t_first3 _ _ _ _ _ _ _ (by rfl) (by simp)).mono ?_
     rintro e8 w8 ⟨rfl, hw8⟩
     have HB8 := Lib.hid (show Below w.heap.size w w8 from HB5.out.trans ((show Below w5.heap.size w5 w8 by rw [← hw8]; (repeat' first|(with_reducible first|exact bw1|assumption|refine bw2 ?_ _|refine bw3 ?_ ?_ _|refine bw4 ?_|refine bw5 ?_ ?_ _|refine bw6 (by assumption) ?_ ?_|exact And.left (by assumption))|go_size)).mono HB5.out.size))
     clear hw8
     go_wp2
     go_ret
     exact ⟨ret_int (by rw [HV.out]; simp), HB8.out⟩
    ·skip
     refine later_of_eq 44 (by kernel_rfl) (by kernel_rfl) ?_; simp only [List.take_succ_cons, List.take_zero, List.drop_succ_cons, List.drop_zero]; repeat go_big_quiet_step (first | with_reducible exact calls_later_same (H1.out _) | with_reducible exact calls_later_same (H2.out _) | with_reducible exact calls_later_same (H3.out _) | with_reducible exact calls_later_same (H4.out _) | with_reducible exact calls_later_same (H5.out _) | with_reducible exact calls_later_same (H6.out _) | with_reducible exact calls_later_same (HU.out _ _ _))
     refine wpQuiet_nil ?_; intro w5 hb5
     have HB5 := Lib.hid (show Below w.heap.size w w5 by (repeat' first|(with_reducible first|exact bw1|assumption|refine bw2 ?_ _|refine bw3 ?_ ?_ _|refine bw4 ?_|refine bw5 ?_ ?_ _|refine bw6 (by assumption) ?_ ?_|exact And.left (by assumption))|go_size))
     clear hb5
     go_wp2_with fail
     refine (t_first3 _ _ _ _ _ _ _ (by rfl) (by simp)).mono ?_
     rintro e8 w8 ⟨rfl, hw8⟩
     have HB8 := Lib.hid (show Below w.heap.size w w8 from HB5.out.trans ((show Below w5.heap.size w5 w8 by rw [← hw8]; (repeat' first|(with_reducible first|exact bw1|assumption|refine bw2 ?_ _|refine bw3 ?_ ?_ _|refine bw4 ?_|refine bw5 ?_ ?_ _|refine bw6 (by assumption) ?_ ?_|exact And.left (by assumption))|go_size)).mono HB5.out.size))
     clear hw8
     go_wp2
     go_ret
     exact ⟨ret_int (by rw [HV.out]; simp), HB8.out⟩
end Go.Proofs.YtidboecjllaofaaGreat
