import Derived.Test.YtdjinmieogpgcaaGreatMTMacR
/- Machines and limits: the program's checks. -/
namespace Go.Proofs.YtdjinmieogpgcaaGreat
open Go.RowKit
set_option linter.unusedVariables false
set_option linter.unusedSimpArgs false
theorem cm1_any (n : Int) (X nb cb : Nat) (ab : Option Addr) (w : World) (h : w.cell? ⟨X, 0, none⟩ = some (.slice ab nb cb)) (hX : X < w.heap.size) (hn : nb ≤ 8) :
    Calls Tryz.prog 129 #[.int .i64 n, .pointer (some ⟨X, 0, none⟩)] w fun e' w' => e' = .returned (.bool (isS nb n)) ∧ w = w' := by
 obtain ⟨p, hp, w1, w2, p1, p2⟩ := pow_wrap hn
 have n0 : (0 : Int) ≤ (nb : Int) := by omega
 have n1 : (nb : Int) ≤ 64 := by omega
 have n2 : ((nb : Int)).toNat = nb := by omega
 unfold isS
 rw [← hp]
 have HW := Lib.hid (fun w' => t_within_any n 0 (p - 1) w')
 clear hp
 generalize wi n 0 (p - 1) = b at *
 go_enter Tryz.func129, Tryz.ntmps129
 go_wp2_with fail
 refine (HW.out _).mono ?_
 rintro e5 w5 ⟨rfl, rfl⟩
 go_wp2
 go_ret
 exact ⟨rfl, rfl⟩
theorem loadE_any (s : Int) (w : World) : Calls Tryz.prog 95 #[.int .i64 s] w fun e' w' => e' = .returned (.int .i64 (loaE s)) ∧ w = w' := by
 have HS := Lib.hid (fun W => t_small_any s 1000 W (by omega) (by omega))
 unfold loaE
 generalize wi s (-1000) 1000 = b at *
 go_enter Tryz.func95, Tryz.ntmps95
 go_wp2_with fail
 refine (HS.out _).mono ?_
 rintro e5 w5 ⟨rfl, rfl⟩
 go_wp2_with fail
 refine (t_unless_any _ _ _).mono ?_
 rintro e6 w6 ⟨rfl, rfl⟩
 go_wp2
 go_ret
 exact ⟨rfl, rfl⟩
theorem cl1_any (n : Int) (w : World) : Calls Tryz.prog 110 #[.int .i64 n] w fun e' w' => e' = .returned (.bool (wi n 0 1000)) ∧ w = w' := by
 have HS := Lib.hid (fun W => t_within_any n 0 1000 W)
 generalize wi n 0 1000 = b at *
 go_enter Tryz.func110, Tryz.ntmps110
 go_wp2_with fail
 refine (HS.out _).mono ?_
 rintro e5 w5 ⟨rfl, rfl⟩
 go_wp2
 go_ret
 exact ⟨rfl, rfl⟩
theorem cl2_any (n : Int) (w : World) : Calls Tryz.prog 111 #[.int .i64 n] w fun e' w' => e' = .returned (.bool (wi n (-1000) 1000)) ∧ w = w' := by
 have HS := Lib.hid (fun W => t_small_any n 1000 W (by omega) (by omega))
 generalize wi n (-1000) 1000 = b at *
 go_enter Tryz.func111, Tryz.ntmps111
 go_wp2_with fail
 refine (HS.out _).mono ?_
 rintro e5 w5 ⟨rfl, rfl⟩
 go_wp2
 go_ret
 exact ⟨rfl, rfl⟩
theorem m_staE_any (x : Int) (nb cb ng cg : Nat) (ab ag : Option Addr) (s : Int) (w : World) (hn : nb ≤ 8) :
    Calls Tryz.prog 61 #[.agg #[.slice ab nb cb, .int .i64 x, .slice ag ng cg], .int .i64 s] w fun e' w' => e' = .returned (.int .i64 (staE nb s)) ∧ Below w.heap.size w w' := by
 obtain ⟨p, hp, w1, w2, p1, p2⟩ := pow_wrap hn
 have n0 : (0 : Int) ≤ (nb : Int) := by omega
 have n1 : (nb : Int) ≤ 64 := by omega
 have n2 : ((nb : Int)).toNat = nb := by omega
 unfold staE isS
 rw [← hp]
 have HW := Lib.hid (fun w' => t_within_any s 0 (p - 1) w')
 clear hp
 generalize wi s 0 (p - 1) = b at *
 go_enter Tryz.func61, Tryz.ntmps61
 go_wp2_with fail
 refine (HW.out _).mono ?_
 rintro e5 w5 ⟨rfl, rfl⟩
 go_wp2_with fail
 refine (t_unless_any _ _ _).mono ?_
 rintro e6 w6 ⟨rfl, rfl⟩
 go_wp2
 go_ret
 exact ⟨rfl, by (first|exact bwg|go_size)⟩
set_option maxHeartbeats 2000000 in
set_option maxRecDepth 100000 in
theorem checkLimits_any (l : Lim) (w : World) : Calls Tryz.prog 76 #[.agg #[.int .i64 l.volt, .int .i64 l.lo, .int .i64 l.hi, .int .i64 l.circ, .int .i64 l.brk, .int .i64 l.ret]] w fun e' w' => e' = .returned (.int .i64 (limE l)) ∧ Below w.heap.size w w' := by
 unfold limE
 obtain ⟨vo, lo, hi, ci, br, re⟩ := l
 simp only
 have H1 := Lib.hid (fun w' => cl1_any vo w')
 have H2 := Lib.hid (fun w' => cl2_any lo w')
 have H3 := Lib.hid (fun w' => cl2_any hi w')
 have H4 := Lib.hid (fun w' => cl1_any ci w')
 have H5 := Lib.hid (fun w' => cl1_any br w')
 have H6 := Lib.hid (fun w' => cl1_any re w')
 have HU := Lib.hid (fun (b : Bool) (e : Int) w' => t_unless_any b e w')
 generalize wi vo 0 1000 = b1 at *
 generalize wi lo (-1000) 1000 = b2 at *
 generalize wi hi (-1000) 1000 = b3 at *
 generalize wi ci 0 1000 = b4 at *
 generalize wi br 0 1000 = b5 at *
 generalize wi re 0 1000 = b6 at *
 obtain ⟨V, hV⟩ : ∃ V, V = firstErr [unl (b1 && b2 && b3) 2, unl (decide (lo ≤ hi)) 9, unl (b4 && b5 && b6) 2] := ⟨_, rfl⟩
 have HV := Lib.hid hV
 rw [← hV]
 clear hV
 go_enter Tryz.func76, Tryz.ntmps76
 go_wp2_with fail
 cases b1
 ·cases b4
  ·skip
   refine later_of_eq 44 (by kernel_rfl) (by kernel_rfl) ?_; simp only [List.take_succ_cons, List.take_zero, List.drop_succ_cons, List.drop_zero]; repeat go_big_quiet_step (first | with_reducible exact calls_later_same (H1.out _) | with_reducible exact calls_later_same (H2.out _) | with_reducible exact calls_later_same (H3.out _) | with_reducible exact calls_later_same (H4.out _) | with_reducible exact calls_later_same (H5.out _) | with_reducible exact calls_later_same (H6.out _) | with_reducible exact calls_later_same (HU.out _ _ _))
   refine wpQuiet_nil ?_; intro w5 hb5
   have HB5 := Lib.hid (show Below w.heap.size w w5 by (first|exact bwg|go_size))
   clear hb5
   go_wp2_with fail
   refine (t_first3 _ _ _ _ _ _ _ (by rfl) (by simp)).mono ?_
   rintro e8 w8 ⟨rfl, hw8⟩
   have HB8 := Lib.hid (show Below w.heap.size w w8 from HB5.out.trans ((show Below w5.heap.size w5 w8 by rw [← hw8]; (first|exact bwg|go_size)).mono HB5.out.size))
   clear hw8
   go_wp2
   go_ret
   exact ⟨ret_int (by rw [HV.out]; simp), HB8.out⟩
  ·cases b5
   ·skip
    refine later_of_eq 44 (by kernel_rfl) (by kernel_rfl) ?_; simp only [List.take_succ_cons, List.take_zero, List.drop_succ_cons, List.drop_zero]; repeat go_big_quiet_step (first | with_reducible exact calls_later_same (H1.out _) | with_reducible exact calls_later_same (H2.out _) | with_reducible exact calls_later_same (H3.out _) | with_reducible exact calls_later_same (H4.out _) | with_reducible exact calls_later_same (H5.out _) | with_reducible exact calls_later_same (H6.out _) | with_reducible exact calls_later_same (HU.out _ _ _))
    refine wpQuiet_nil ?_; intro w5 hb5
    have HB5 := Lib.hid (show Below w.heap.size w w5 by (first|exact bwg|go_size))
    clear hb5
    go_wp2_with fail
    refine (t_first3 _ _ _ _ _ _ _ (by rfl) (by simp)).mono ?_
    rintro e8 w8 ⟨rfl, hw8⟩
    have HB8 := Lib.hid (show Below w.heap.size w w8 from HB5.out.trans ((show Below w5.heap.size w5 w8 by rw [← hw8]; (first|exact bwg|go_size)).mono HB5.out.size))
    clear hw8
    go_wp2
    go_ret
    exact ⟨ret_int (by rw [HV.out]; simp), HB8.out⟩
   ·skip
    refine later_of_eq 44 (by kernel_rfl) (by kernel_rfl) ?_; simp only [List.take_succ_cons, List.take_zero, List.drop_succ_cons, List.drop_zero]; repeat go_big_quiet_step (first | with_reducible exact calls_later_same (H1.out _) | with_reducible exact calls_later_same (H2.out _) | with_reducible exact calls_later_same (H3.out _) | with_reducible exact calls_later_same (H4.out _) | with_reducible exact calls_later_same (H5.out _) | with_reducible exact calls_later_same (H6.out _) | with_reducible exact calls_later_same (HU.out _ _ _))
    refine wpQuiet_nil ?_; intro w5 hb5
    have HB5 := Lib.hid (show Below w.heap.size w w5 by (first|exact bwg|go_size))
    clear hb5
    go_wp2_with fail
    refine (t_first3 _ _ _ _ _ _ _ (by rfl) (by simp)).mono ?_
    rintro e8 w8 ⟨rfl, hw8⟩
    have HB8 := Lib.hid (show Below w.heap.size w w8 from HB5.out.trans ((show Below w5.heap.size w5 w8 by rw [← hw8]; (first|exact bwg|go_size)).mono HB5.out.size))
    clear hw8
    go_wp2
    go_ret
    exact ⟨ret_int (by rw [HV.out]; simp), HB8.out⟩
 ·cases b2
  ·cases b4
   ·skip
    refine later_of_eq 44 (by kernel_rfl) (by kernel_rfl) ?_; simp only [List.take_succ_cons, List.take_zero, List.drop_succ_cons, List.drop_zero]; repeat go_big_quiet_step (first | with_reducible exact calls_later_same (H1.out _) | with_reducible exact calls_later_same (H2.out _) | with_reducible exact calls_later_same (H3.out _) | with_reducible exact calls_later_same (H4.out _) | with_reducible exact calls_later_same (H5.out _) | with_reducible exact calls_later_same (H6.out _) | with_reducible exact calls_later_same (HU.out _ _ _))
    refine wpQuiet_nil ?_; intro w5 hb5
    have HB5 := Lib.hid (show Below w.heap.size w w5 by (first|exact bwg|go_size))
    clear hb5
    go_wp2_with fail
    refine (t_first3 _ _ _ _ _ _ _ (by rfl) (by simp)).mono ?_
    rintro e8 w8 ⟨rfl, hw8⟩
    have HB8 := Lib.hid (show Below w.heap.size w w8 from HB5.out.trans ((show Below w5.heap.size w5 w8 by rw [← hw8]; (first|exact bwg|go_size)).mono HB5.out.size))
    clear hw8
    go_wp2
    go_ret
    exact ⟨ret_int (by rw [HV.out]; simp), HB8.out⟩
   ·cases b5
    ·skip
     refine later_of_eq 44 (by kernel_rfl) (by kernel_rfl) ?_; simp only [List.take_succ_cons, List.take_zero, List.drop_succ_cons, List.drop_zero]; repeat go_big_quiet_step (first | with_reducible exact calls_later_same (H1.out _) | with_reducible exact calls_later_same (H2.out _) | with_reducible exact calls_later_same (H3.out _) | with_reducible exact calls_later_same (H4.out _) | with_reducible exact calls_later_same (H5.out _) | with_reducible exact calls_later_same (H6.out _) | with_reducible exact calls_later_same (HU.out _ _ _))
     refine wpQuiet_nil ?_; intro w5 hb5
     have HB5 := Lib.hid (show Below w.heap.size w w5 by (first|exact bwg|go_size))
     clear hb5
     go_wp2_with fail
     refine (t_first3 _ _ _ _ _ _ _ (by rfl) (by simp)).mono ?_
     rintro e8 w8 ⟨rfl, hw8⟩
     have HB8 := Lib.hid (show Below w.heap.size w w8 from HB5.out.trans ((show Below w5.heap.size w5 w8 by rw [← hw8]; (first|exact bwg|go_size)).mono HB5.out.size))
     clear hw8
     go_wp2
     go_ret
     exact ⟨ret_int (by rw [HV.out]; simp), HB8.out⟩
    ·skip
     refine later_of_eq 44 (by kernel_rfl) (by kernel_rfl) ?_; simp only [List.take_succ_cons, List.take_zero, List.drop_succ_cons, List.drop_zero]; repeat go_big_quiet_step (first | with_reducible exact calls_later_same (H1.out _) | with_reducible exact calls_later_same (H2.out _) | with_reducible exact calls_later_same (H3.out _) | with_reducible exact calls_later_same (H4.out _) | with_reducible exact calls_later_same (H5.out _) | with_reducible exact calls_later_same (H6.out _) | with_reducible exact calls_later_same (HU.out _ _ _))
     refine wpQuiet_nil ?_; intro w5 hb5
     have HB5 := Lib.hid (show Below w.heap.size w w5 by (first|exact bwg|go_size))
     clear hb5
     go_wp2_with fail
     refine (t_first3 _ _ _ _ _ _ _ (by rfl) (by simp)).mono ?_
     rintro e8 w8 ⟨rfl, hw8⟩
     have HB8 := Lib.hid (show Below w.heap.size w w8 from HB5.out.trans ((show Below w5.heap.size w5 w8 by rw [← hw8]; (first|exact bwg|go_size)).mono HB5.out.size))
     clear hw8
     go_wp2
     go_ret
     exact ⟨ret_int (by rw [HV.out]; simp), HB8.out⟩
  ·cases b4
   ·skip
    refine later_of_eq 44 (by kernel_rfl) (by kernel_rfl) ?_; simp only [List.take_succ_cons, List.take_zero, List.drop_succ_cons, List.drop_zero]; repeat go_big_quiet_step (first | with_reducible exact calls_later_same (H1.out _) | with_reducible exact calls_later_same (H2.out _) | with_reducible exact calls_later_same (H3.out _) | with_reducible exact calls_later_same (H4.out _) | with_reducible exact calls_later_same (H5.out _) | with_reducible exact calls_later_same (H6.out _) | with_reducible exact calls_later_same (HU.out _ _ _))
    refine wpQuiet_nil ?_; intro w5 hb5
    have HB5 := Lib.hid (show Below w.heap.size w w5 by (first|exact bwg|go_size))
    clear hb5
    go_wp2_with fail
    refine (t_first3 _ _ _ _ _ _ _ (by rfl) (by simp)).mono ?_
    rintro e8 w8 ⟨rfl, hw8⟩
    have HB8 := Lib.hid (show Below w.heap.size w w8 from HB5.out.trans ((show Below w5.heap.size w5 w8 by rw [← hw8]; (first|exact bwg|go_size)).mono HB5.out.size))
    clear hw8
    go_wp2
    go_ret
    exact ⟨ret_int (by rw [HV.out]; simp), HB8.out⟩
   ·cases b5
    ·skip
     refine later_of_eq 44 (by kernel_rfl) (by kernel_rfl) ?_; simp only [List.take_succ_cons, List.take_zero, List.drop_succ_cons, List.drop_zero]; repeat go_big_quiet_step (first | with_reducible exact calls_later_same (H1.out _) | with_reducible exact calls_later_same (H2.out _) | with_reducible exact calls_later_same (H3.out _) | with_reducible exact calls_later_same (H4.out _) | with_reducible exact calls_later_same (H5.out _) | with_reducible exact calls_later_same (H6.out _) | with_reducible exact calls_later_same (HU.out _ _ _))
     refine wpQuiet_nil ?_; intro w5 hb5
     have HB5 := Lib.hid (show Below w.heap.size w w5 by (first|exact bwg|go_size))
     clear hb5
     go_wp2_with fail
     refine (t_first3 _ _ _ _ _ _ _ (by rfl) (by simp)).mono ?_
     rintro e8 w8 ⟨rfl, hw8⟩
     have HB8 := Lib.hid (show Below w.heap.size w w8 from HB5.out.trans ((show Below w5.heap.size w5 w8 by rw [← hw8]; (first|exact bwg|go_size)).mono HB5.out.size))
     clear hw8
     go_wp2
     go_ret
     exact ⟨ret_int (by rw [HV.out]; simp), HB8.out⟩
    ·skip
     refine later_of_eq 44 (by kernel_rfl) (by kernel_rfl) ?_; simp only [List.take_succ_cons, List.take_zero, List.drop_succ_cons, List.drop_zero]; repeat go_big_quiet_step (first | with_reducible exact calls_later_same (H1.out _) | with_reducible exact calls_later_same (H2.out _) | with_reducible exact calls_later_same (H3.out _) | with_reducible exact calls_later_same (H4.out _) | with_reducible exact calls_later_same (H5.out _) | with_reducible exact calls_later_same (H6.out _) | with_reducible exact calls_later_same (HU.out _ _ _))
     refine wpQuiet_nil ?_; intro w5 hb5
     have HB5 := Lib.hid (show Below w.heap.size w w5 by (first|exact bwg|go_size))
     clear hb5
     go_wp2_with fail
     refine (t_first3 _ _ _ _ _ _ _ (by rfl) (by simp)).mono ?_
     rintro e8 w8 ⟨rfl, hw8⟩
     have HB8 := Lib.hid (show Below w.heap.size w w8 from HB5.out.trans ((show Below w5.heap.size w5 w8 by rw [← hw8]; (first|exact bwg|go_size)).mono HB5.out.size))
     clear hw8
     go_wp2
     go_ret
     exact ⟨ret_int (by rw [HV.out]; simp), HB8.out⟩
/- Regulators: a tick, and what is valid. The program. -/
def momV (m : Mom) : Value := .agg #[.int .i64 m.tap, .int .i64 m.wait]
theorem act_mid {r : Reg} {m : Mom} {v : Int} (h0 : r.tgt - r.band ≤ v) (h1 : v ≤ r.tgt + r.band) : act r m v = ⟨m.tap, 0⟩ := by unfold act; rw [if_pos ⟨h0, h1⟩]
theorem act_up {r : Reg} {m : Mom} {v : Int} (hr : RegV r) (hm : MomV r m) (h : r.tgt + r.band < v) : act r m v = if max 0 m.wait + 1 = r.dly then ⟨min (max (m.tap - 1) r.lo) r.hi, 0⟩ else ⟨m.tap, max 0 m.wait + 1⟩ := by
 obtain ⟨⟨a1, a2⟩, a3, a4⟩ := hm
 have := hr.b0
 have := hr.d0
 have := hr.l1
 unfold act
 rw [if_neg (by omega), if_neg (by omega)]
 by_cases hx : max m.wait 0 + 1 < r.dly
 ·rw [if_pos hx, if_neg (by omega), show max 0 m.wait = max m.wait 0 by omega]
 ·rw [if_neg hx, if_pos (by omega), show min (max (m.tap - 1) r.lo) r.hi = max (m.tap - 1) r.lo by omega]
theorem act_dn {r : Reg} {m : Mom} {v : Int} (hr : RegV r) (hm : MomV r m) (h : v < r.tgt - r.band) : act r m v = if -(max 0 (-m.wait) + 1) = -r.dly then ⟨min (max (m.tap + 1) r.lo) r.hi, 0⟩ else ⟨m.tap, -(max 0 (-m.wait) + 1)⟩ := by
 obtain ⟨⟨a1, a2⟩, a3, a4⟩ := hm
 have := hr.b0
 have := hr.d0
 have := hr.l1
 unfold act
 rw [if_neg (by omega), if_pos (by omega)]
 by_cases hx : -r.dly < min m.wait 0 - 1
 ·rw [if_pos hx, if_neg (by omega), show -(max 0 (-m.wait) + 1) = min m.wait 0 - 1 by omega]
 ·rw [if_neg hx, if_pos (by omega), show min (max (m.tap + 1) r.lo) r.hi = min (m.tap + 1) r.hi by omega]
set_option maxHeartbeats 1000000 in
set_option maxRecDepth 100000 in
theorem acted_any (r : Reg) (m : Mom) (v : Int) (w : World) (hr : RegV r) (hm : MomV r m) :
    Calls Tryz.prog 74 #[.agg #[.int .i64 r.tgt, .int .i64 r.band, .int .i64 r.dly, .int .i64 r.stp, .int .i64 r.lo, .int .i64 r.hi], .agg #[.int .i64 m.tap, .int .i64 m.wait], .int .i64 v] w fun e' w' => e' = .returned (.agg #[.int .i64 (act r m v).tap, .int .i64 (act r m v).wait]) ∧ Below w.heap.size w w' := by
 have h1 := hr.t0
 have h2 := hr.t1
 have h3 := hr.b0
 have h4 := hr.b1
 have h5 := hr.d0
 have h6 := hr.d1
 have h7 := hr.l0
 have h8 := hr.l1
 have h9 := hr.h1
 obtain ⟨⟨m1, m2⟩, m3, m4⟩ := hm
 have HM := Lib.hid (fun (h : r.tgt - r.band ≤ v ∧ v ≤ r.tgt + r.band) => act_mid (m := m) h.1 h.2)
 have HU := Lib.hid (fun (h : r.tgt + r.band < v) => act_up hr ⟨⟨m1, m2⟩, m3, m4⟩ h)
 have HD := Lib.hid (fun (h : v < r.tgt - r.band) => act_dn hr ⟨⟨m1, m2⟩, m3, m4⟩ h)
 obtain ⟨R, hR⟩ : ∃ R, R = act r m v := ⟨_, rfl⟩
 rw [← hR] at HM HU HD ⊢
 obtain ⟨tgt, band, dly, stp, lo, hi⟩ := r
 obtain ⟨tap, wait⟩ := m
 simp only at h1 h2 h3 h4 h5 h6 h7 h8 h9 m1 m2 m3 m4 HM HU HD ⊢
 clear hR hr
 have w1 : IntKind.i64.wrap (tgt + band) = tgt + band := by rw [IntKind.wrap_i64]; omega
 have w2 : IntKind.i64.wrap (tgt - band) = tgt - band := by rw [IntKind.wrap_i64]; omega
 have w3 : IntKind.i64.wrap wait = wait := by rw [IntKind.wrap_i64]; omega
 have w4 : IntKind.i64.wrap dly = dly := by rw [IntKind.wrap_i64]; omega
 have w5 : IntKind.i64.wrap (tap - 1) = tap - 1 := by rw [IntKind.wrap_i64]; omega
 have w6 : IntKind.i64.wrap (-wait) = -wait := by rw [IntKind.wrap_i64]; omega
 have w7 : IntKind.i64.wrap (-dly) = -dly := by rw [IntKind.wrap_i64]; omega
 have w8 : IntKind.i64.wrap (tap + 1) = tap + 1 := by rw [IntKind.wrap_i64]; omega
 have w8' : IntKind.i64.wrap (tap - -1) = tap + 1 := by rw [IntKind.wrap_i64]; omega
 clear h1 h2
 by_cases hu : tgt + band < v
 ·have HV := Lib.hid (HU.out hu)
  have mx : max 0 wait = if 0 < wait then wait else 0 := by split <;> omega
  clear HM HU HD mx
  have w9 : IntKind.i64.wrap (wait + 1) = wait + 1 := by rw [IntKind.wrap_i64]; omega
  go_enter Tryz.func74, Tryz.ntmps74
  go_wp2_with fail
  all_goals
   refine bodyPost_ret (by simp [results, Tryz.results74, go_sem]; rfl) rfl ⟨?_, by (first|exact bwg|go_size)⟩
   have hv := HV.out
   simp only [beq_iff_eq, bne_iff_ne, beq_eq_false_iff_ne, ne_eq, decide_eq_true_eq, decide_eq_false_iff_not] at *
   rw [hv]
   split
   ·simp <;> omega
   ·simp <;> omega
 ·by_cases hd : v < tgt - band
  ·have HV := Lib.hid (HD.out hd)
   clear HM HU HD
   have w9 : IntKind.i64.wrap (-wait + 1) = -wait + 1 := by rw [IntKind.wrap_i64]; omega
   have w10 : IntKind.i64.wrap (-(-wait + 1)) = -(-wait + 1) := by rw [IntKind.wrap_i64]; omega
   go_enter Tryz.func74, Tryz.ntmps74
   go_wp2_with fail
   all_goals
    refine bodyPost_ret (by simp [results, Tryz.results74, go_sem]; rfl) rfl ⟨?_, by (first|exact bwg|go_size)⟩
    have hv := HV.out
    simp only [beq_iff_eq, bne_iff_ne, beq_eq_false_iff_ne, ne_eq, decide_eq_true_eq, decide_eq_false_iff_not] at *
    rw [hv]
    split
    ·simp <;> omega
    ·simp <;> omega
  ·have HV := Lib.hid (HM.out ⟨by omega, by omega⟩)
   clear HM HU HD w3 w4 w5 w6 w7 w8 w8'
   go_enter Tryz.func74, Tryz.ntmps74
   go_wp2_with fail
   refine bodyPost_ret (v := .agg #[.int .i64 tap, .int .i64 0]) (by simp [results, Tryz.results74, go_sem]) rfl ⟨by rw [HV.out], by (first|exact bwg|go_size)⟩
set_option maxHeartbeats 1000000 in
set_option maxRecDepth 100000 in
theorem ticked_any (r : Reg) (m : Mom) (d : Int) (w : World) (hr : RegV r) (hm : MomV r m) (hd : -10000 ≤ d ∧ d ≤ 10000) :
    Calls Tryz.prog 104 #[.agg #[.int .i64 r.tgt, .int .i64 r.band, .int .i64 r.dly, .int .i64 r.stp, .int .i64 r.lo, .int .i64 r.hi], .agg #[.int .i64 m.tap, .int .i64 m.wait], .int .i64 d] w fun e' w' => e' = .returned (.agg #[.int .i64 (tick r d m).tap, .int .i64 (tick r d m).wait]) ∧ Below w.heap.size w w' := by
 have hp : -400000 ≤ r.stp * m.tap ∧ r.stp * m.tap ≤ 400000 := by
  have h1 := hm.1
  have h2 := hr.l0
  have h3 := hr.h1
  have h4 : (r.stp * m.tap).natAbs ≤ 10000 * 40 := by rw [Int.natAbs_mul]; exact Nat.mul_le_mul (by have := hr.s0; have := hr.s1; omega) (by omega)
  omega
 have HA := Lib.hid (fun (W : World) => acted_any r m (d + r.stp * m.tap) W hr hm)
 obtain ⟨R, hR⟩ : ∃ R, R = act r m (d + r.stp * m.tap) := ⟨_, rfl⟩
 have hT : tick r d m = R := hR.symm
 rw [← hR] at HA
 rw [hT]
 obtain ⟨tgt, band, dly, stp, lo, hi⟩ := r
 obtain ⟨tap, wait⟩ := m
 obtain ⟨R1, R2⟩ := R
 simp only at HA hp ⊢
 generalize hP : stp * tap = P at *
 have w1 : IntKind.i64.wrap P = P := by rw [IntKind.wrap_i64]; omega
 have w2 : IntKind.i64.wrap (d + P) = d + P := by rw [IntKind.wrap_i64]; omega
 clear hr hm hR hT
 go_enter Tryz.func104, Tryz.ntmps104
 go_wp2_with fail
 refine (HA.out _).mono ?_
 rintro e5 w5 ⟨rfl, hb5⟩
 have hz5 := hb5.size
 simp only [World.size_alloc] at hz5
 have k6 : w5.heap[w.heap.size + 1 + 1]? = some (.cells #[.int .i64 0, .int .i64 0] 27) := by
  rw [hb5.block _ (by simp)]
  have := heap_alloc_new ((w.alloc (Obj.cells #[.int .i64 tgt, .int .i64 band, .int .i64 dly, .int .i64 stp, .int .i64 lo, .int .i64 hi] 25)).alloc (Obj.cells #[.int .i64 tap, .int .i64 wait] 27)) (Obj.cells #[.int .i64 0, .int .i64 0] 27)
  simpa using this
 have HB5 := Lib.hid (show Below w.heap.size w w5 by (first|exact bwg|go_size))
 obtain ⟨X6, hX6⟩ : ∃ X, X = w.heap.size + 1 + 1 := ⟨_, rfl⟩
 rw [← hX6] at k6 ⊢
 have hx6 : w.heap.size ≤ X6 := by omega
 obtain ⟨y0, y1, _⟩ := blkc2 k6
 have f0 := blk_fz k6 0
 have f1 := blk_fz k6 1
 have l6 := blk_lt k6
 have HK6 := Lib.hid k6
 clear hb5 hz5 k6 hX6
 go_wp2
 have kw := blk_set (blk_set HK6.out 0 (.int .i64 R1)) 1 (.int .i64 R2)
 obtain ⟨s0, s1, _⟩ := blkc2 kw
 refine bodyPost_ret (v := .agg #[.int .i64 R1, .int .i64 R2]) (by simp [results, Tryz.results104, go_sem, s0, s1]) rfl ⟨rfl, (HB5.out.setCell hx6 _).setCell hx6 _⟩
theorem swing_any (d : Int) (w : World) : Calls Tryz.prog 73 #[.int .i64 d] w fun e' w' => e' = .returned (.int .i64 (swE d)) ∧ Below w.heap.size w w' := by
 have HS := Lib.hid (fun (W : World) => t_small_any d 10000 W (by omega) (by omega))
 unfold swE
 generalize wi d (-10000) 10000 = b at *
 go_enter Tryz.func73, Tryz.ntmps73
 go_wp2_with fail
 refine (HS.out _).mono ?_
 rintro e5 w5 ⟨rfl, rfl⟩
 go_wp2_with fail
 refine (t_unless_any _ _ _).mono ?_
 rintro e6 w6 ⟨rfl, rfl⟩
 go_wp2
 go_ret
 exact ⟨rfl, by (first|exact bwg|go_size)⟩
def momX (r : Reg) (m : Mom) : Int := unl (wi m.tap r.lo r.hi && wi m.wait (IntKind.i64.wrap (1 - r.dly)) (IntKind.i64.wrap (r.dly - 1))) 2
theorem momX_eq {r : Reg} (m : Mom) (hr : RegV r) : momX r m = momE r m := by
 have d0 := hr.d0
 have d1 := hr.d1
 unfold momX momE
 rw [show IntKind.i64.wrap (1 - r.dly) = 1 - r.dly by rw [IntKind.wrap_i64]; omega, show IntKind.i64.wrap (r.dly - 1) = r.dly - 1 by rw [IntKind.wrap_i64]; omega]
set_option maxHeartbeats 1000000 in
set_option maxRecDepth 100000 in
theorem moment_any (r : Reg) (m : Mom) (w : World) :
    Calls Tryz.prog 72 #[.agg #[.int .i64 r.tgt, .int .i64 r.band, .int .i64 r.dly, .int .i64 r.stp, .int .i64 r.lo, .int .i64 r.hi], .agg #[.int .i64 m.tap, .int .i64 m.wait]] w fun e' w' => e' = .returned (.int .i64 (momX r m)) ∧ Below w.heap.size w w' := by
 unfold momX
 obtain ⟨tgt, band, dly, stp, lo, hi⟩ := r
 obtain ⟨tap, wait⟩ := m
 simp only
 obtain ⟨d1, w1⟩ : ∃ x, IntKind.i64.wrap (1 - dly) = x := ⟨_, rfl⟩
 obtain ⟨d2, w2⟩ : ∃ x, IntKind.i64.wrap (dly - 1) = x := ⟨_, rfl⟩
 rw [w1, w2]
 have H1 := Lib.hid (fun (W : World) => t_within_any tap lo hi W)
 have H2 := Lib.hid (fun (W : World) => t_within_any wait d1 d2 W)
 generalize wi tap lo hi = b1 at *
 generalize wi wait d1 d2 = b2 at *
 go_enter Tryz.func72, Tryz.ntmps72
 go_wp2_with fail
 refine (H1.out _).mono ?_
 rintro e5 w5 ⟨rfl, rfl⟩
 cases b1
 ·go_wp2_with fail
  refine (t_unless_any _ _ _).mono ?_
  rintro e6 w6 ⟨rfl, rfl⟩
  go_wp2
  go_ret
  exact ⟨rfl, by (first|exact bwg|go_size)⟩
 ·go_wp2_with fail
  refine (H2.out _).mono ?_
  rintro e5 w5 ⟨rfl, rfl⟩
  go_wp2_with fail
  refine (t_unless_any _ _ _).mono ?_
  rintro e6 w6 ⟨rfl, rfl⟩
  go_wp2
  go_ret
  exact ⟨ret_int (by rw [Bool.true_and]), by (first|exact bwg|go_size)⟩
theorem cr1_any (n : Int) (w : World) : Calls Tryz.prog 107 #[.int .i64 n] w fun e' w' => e' = .returned (.bool (wi n (-40) 40)) ∧ w = w' := by
 have HS := Lib.hid (fun (W : World) => t_small_any n 40 W (by omega) (by omega))
 generalize wi n (-40) 40 = b at *
 go_enter Tryz.func107, Tryz.ntmps107
 go_wp2_with fail
 refine (HS.out _).mono ?_
 rintro e5 w5 ⟨rfl, rfl⟩
 go_wp2
 go_ret
 exact ⟨rfl, rfl⟩
set_option maxHeartbeats 2000000 in
set_option maxRecDepth 100000 in
theorem checkReg_any (r : Reg) (w : World) : Calls Tryz.prog 71 #[.agg #[.int .i64 r.tgt, .int .i64 r.band, .int .i64 r.dly, .int .i64 r.stp, .int .i64 r.lo, .int .i64 r.hi]] w fun e' w' => e' = .returned (.int .i64 (regE r)) ∧ Below w.heap.size w w' := by
 obtain ⟨V, hV⟩ : ∃ V, V = regE r := ⟨_, rfl⟩
 rw [← hV]
 unfold regE regB at hV
 obtain ⟨tgt, band, dly, stp, lo, hi⟩ := r
 simp only at hV ⊢
 have H1 := Lib.hid (fun (W : World) => t_small_any tgt 10000 W (by omega) (by omega))
 have H2 := Lib.hid (fun (W : World) => t_within_any band 0 10000 W)
 have H3 := Lib.hid (fun (W : World) => t_within_any dly 1 20 W)
 have H4 := Lib.hid (fun (W : World) => t_within_any stp 1 10000 W)
 have H5 := Lib.hid (fun (W : World) => cr1_any lo W)
 have H6 := Lib.hid (fun (W : World) => cr1_any hi W)
 have HUN := Lib.hid (fun (b : Bool) (e : Int) w' => t_unless_any b e w')
 generalize wi tgt (-10000) 10000 = b1 at *
 generalize wi band 0 10000 = b2 at *
 generalize wi dly 1 20 = b3 at *
 generalize wi stp 1 10000 = b4 at *
 generalize wi lo (-40) 40 = b5 at *
 generalize wi hi (-40) 40 = b6 at *
 have HV := Lib.hid hV
 clear hV
 go_enter Tryz.func71, Tryz.ntmps71
 go_wp2_with fail
 refine (H1.out _).mono ?_
 rintro e5 w5 ⟨rfl, rfl⟩
 cases b1
 ·skip
  go_wp2_with fail
  refine later_of_eq 9 (by kernel_rfl) (by kernel_rfl) ?_; simp only [List.take_succ_cons, List.take_zero, List.drop_succ_cons, List.drop_zero]; repeat go_big_quiet_step(with_reducible exact calls_later_same (HUN.out _ _ _))
  refine wpQuiet_nil ?_; intro w9 hb9
  have HB9 := Lib.hid ((show Below w.heap.size w (w.alloc (Obj.cells #[.int .i64 tgt, .int .i64 band, .int .i64 dly, .int .i64 stp, .int .i64 lo, .int .i64 hi] 25)) by (first|exact bwg|go_size)).trans (hb9.mono (by simp)))
  clear hb9
  go_wp2_with fail
  refine (t_unless_any _ _ _).mono ?_
  rintro e10 w10 ⟨rfl, rfl⟩
  go_wp2_with fail
  refine (t_first2 _ _ _ _ _ _ (by rfl) (by simp)).mono ?_
  rintro e8 w8 ⟨rfl, hw8⟩
  have HB8 := Lib.hid (HB9.out.trans ((show Below w9.heap.size w9 w8 by rw [← hw8]; (first|exact bwg|go_size)).mono HB9.out.size))
  clear hw8
  go_wp2
  go_ret
  exact ⟨ret_int (by rw [HV.out]; simp), HB8.out⟩
 ·go_wp2_with fail
  refine (H2.out _).mono ?_
  rintro e5 w5 ⟨rfl, rfl⟩
  cases b2
  ·skip
   go_wp2_with fail
   refine later_of_eq 9 (by kernel_rfl) (by kernel_rfl) ?_; simp only [List.take_succ_cons, List.take_zero, List.drop_succ_cons, List.drop_zero]; repeat go_big_quiet_step(with_reducible exact calls_later_same (HUN.out _ _ _))
   refine wpQuiet_nil ?_; intro w9 hb9
   have HB9 := Lib.hid ((show Below w.heap.size w (w.alloc (Obj.cells #[.int .i64 tgt, .int .i64 band, .int .i64 dly, .int .i64 stp, .int .i64 lo, .int .i64 hi] 25)) by (first|exact bwg|go_size)).trans (hb9.mono (by simp)))
   clear hb9
   go_wp2_with fail
   refine (t_unless_any _ _ _).mono ?_
   rintro e10 w10 ⟨rfl, rfl⟩
   go_wp2_with fail
   refine (t_first2 _ _ _ _ _ _ (by rfl) (by simp)).mono ?_
   rintro e8 w8 ⟨rfl, hw8⟩
   have HB8 := Lib.hid (HB9.out.trans ((show Below w9.heap.size w9 w8 by rw [← hw8]; (first|exact bwg|go_size)).mono HB9.out.size))
   clear hw8
   go_wp2
   go_ret
   exact ⟨ret_int (by rw [HV.out]; simp), HB8.out⟩
  ·go_wp2_with fail
   refine (H3.out _).mono ?_
   rintro e5 w5 ⟨rfl, rfl⟩
   cases b3
   ·skip
    go_wp2_with fail
    refine later_of_eq 9 (by kernel_rfl) (by kernel_rfl) ?_; simp only [List.take_succ_cons, List.take_zero, List.drop_succ_cons, List.drop_zero]; repeat go_big_quiet_step(with_reducible exact calls_later_same (HUN.out _ _ _))
    refine wpQuiet_nil ?_; intro w9 hb9
    have HB9 := Lib.hid ((show Below w.heap.size w (w.alloc (Obj.cells #[.int .i64 tgt, .int .i64 band, .int .i64 dly, .int .i64 stp, .int .i64 lo, .int .i64 hi] 25)) by (first|exact bwg|go_size)).trans (hb9.mono (by simp)))
    clear hb9
    go_wp2_with fail
    refine (t_unless_any _ _ _).mono ?_
    rintro e10 w10 ⟨rfl, rfl⟩
    go_wp2_with fail
    refine (t_first2 _ _ _ _ _ _ (by rfl) (by simp)).mono ?_
    rintro e8 w8 ⟨rfl, hw8⟩
    have HB8 := Lib.hid (HB9.out.trans ((show Below w9.heap.size w9 w8 by rw [← hw8]; (first|exact bwg|go_size)).mono HB9.out.size))
    clear hw8
    go_wp2
    go_ret
    exact ⟨ret_int (by rw [HV.out]; simp), HB8.out⟩
   ·go_wp2_with fail
    refine (H4.out _).mono ?_
    rintro e5 w5 ⟨rfl, rfl⟩
    cases b4
    ·skip
     go_wp2_with fail
     refine later_of_eq 9 (by kernel_rfl) (by kernel_rfl) ?_; simp only [List.take_succ_cons, List.take_zero, List.drop_succ_cons, List.drop_zero]; repeat go_big_quiet_step(with_reducible exact calls_later_same (HUN.out _ _ _))
     refine wpQuiet_nil ?_; intro w9 hb9
     have HB9 := Lib.hid ((show Below w.heap.size w (w.alloc (Obj.cells #[.int .i64 tgt, .int .i64 band, .int .i64 dly, .int .i64 stp, .int .i64 lo, .int .i64 hi] 25)) by (first|exact bwg|go_size)).trans (hb9.mono (by simp)))
     clear hb9
     go_wp2_with fail
     refine (t_unless_any _ _ _).mono ?_
     rintro e10 w10 ⟨rfl, rfl⟩
     go_wp2_with fail
     refine (t_first2 _ _ _ _ _ _ (by rfl) (by simp)).mono ?_
     rintro e8 w8 ⟨rfl, hw8⟩
     have HB8 := Lib.hid (HB9.out.trans ((show Below w9.heap.size w9 w8 by rw [← hw8]; (first|exact bwg|go_size)).mono HB9.out.size))
     clear hw8
     go_wp2
     go_ret
     exact ⟨ret_int (by rw [HV.out]; simp), HB8.out⟩
    ·go_wp2_with fail
     refine (H5.out _).mono ?_
     rintro e5 w5 ⟨rfl, rfl⟩
     cases b5
     ·skip
      go_wp2_with fail
      refine later_of_eq 9 (by kernel_rfl) (by kernel_rfl) ?_; simp only [List.take_succ_cons, List.take_zero, List.drop_succ_cons, List.drop_zero]; repeat go_big_quiet_step(with_reducible exact calls_later_same (HUN.out _ _ _))
      refine wpQuiet_nil ?_; intro w9 hb9
      have HB9 := Lib.hid ((show Below w.heap.size w (w.alloc (Obj.cells #[.int .i64 tgt, .int .i64 band, .int .i64 dly, .int .i64 stp, .int .i64 lo, .int .i64 hi] 25)) by (first|exact bwg|go_size)).trans (hb9.mono (by simp)))
      clear hb9
      go_wp2_with fail
      refine (t_unless_any _ _ _).mono ?_
      rintro e10 w10 ⟨rfl, rfl⟩
      go_wp2_with fail
      refine (t_first2 _ _ _ _ _ _ (by rfl) (by simp)).mono ?_
      rintro e8 w8 ⟨rfl, hw8⟩
      have HB8 := Lib.hid (HB9.out.trans ((show Below w9.heap.size w9 w8 by rw [← hw8]; (first|exact bwg|go_size)).mono HB9.out.size))
      clear hw8
      go_wp2
      go_ret
      exact ⟨ret_int (by rw [HV.out]; simp), HB8.out⟩
     ·go_wp2_with fail
      refine (H6.out _).mono ?_
      rintro e5 w5 ⟨rfl, rfl⟩
      cases b6
      ·skip
       go_wp2_with fail
       refine later_of_eq 9 (by kernel_rfl) (by kernel_rfl) ?_; simp only [List.take_succ_cons, List.take_zero, List.drop_succ_cons, List.drop_zero]; repeat go_big_quiet_step(with_reducible exact calls_later_same (HUN.out _ _ _))
       refine wpQuiet_nil ?_; intro w9 hb9
       have HB9 := Lib.hid ((show Below w.heap.size w (w.alloc (Obj.cells #[.int .i64 tgt, .int .i64 band, .int .i64 dly, .int .i64 stp, .int .i64 lo, .int .i64 hi] 25)) by (first|exact bwg|go_size)).trans (hb9.mono (by simp)))
       clear hb9
       go_wp2_with fail
       refine (t_unless_any _ _ _).mono ?_
       rintro e10 w10 ⟨rfl, rfl⟩
       go_wp2_with fail
       refine (t_first2 _ _ _ _ _ _ (by rfl) (by simp)).mono ?_
       rintro e8 w8 ⟨rfl, hw8⟩
       have HB8 := Lib.hid (HB9.out.trans ((show Below w9.heap.size w9 w8 by rw [← hw8]; (first|exact bwg|go_size)).mono HB9.out.size))
       clear hw8
       go_wp2
       go_ret
       exact ⟨ret_int (by rw [HV.out]; simp), HB8.out⟩
      ·skip
       go_wp2_with fail
       refine later_of_eq 9 (by kernel_rfl) (by kernel_rfl) ?_; simp only [List.take_succ_cons, List.take_zero, List.drop_succ_cons, List.drop_zero]; repeat go_big_quiet_step(with_reducible exact calls_later_same (HUN.out _ _ _))
       refine wpQuiet_nil ?_; intro w9 hb9
       have HB9 := Lib.hid ((show Below w.heap.size w (w.alloc (Obj.cells #[.int .i64 tgt, .int .i64 band, .int .i64 dly, .int .i64 stp, .int .i64 lo, .int .i64 hi] 25)) by (first|exact bwg|go_size)).trans (hb9.mono (by simp)))
       clear hb9
       go_wp2_with fail
       refine (t_unless_any _ _ _).mono ?_
       rintro e10 w10 ⟨rfl, rfl⟩
       go_wp2_with fail
       refine (t_first2 _ _ _ _ _ _ (by rfl) (by simp)).mono ?_
       rintro e8 w8 ⟨rfl, hw8⟩
       have HB8 := Lib.hid (HB9.out.trans ((show Below w9.heap.size w9 w8 by rw [← hw8]; (first|exact bwg|go_size)).mono HB9.out.size))
       clear hw8
       go_wp2
       go_ret
       exact ⟨ret_int (by rw [HV.out]; simp), HB8.out⟩
def rgdE (r : Reg) (m : Mom) (d : Int) : Int := firstErr [regE r, momE r m, swE d]
theorem rgdE_eq (r : Reg) (m : Mom) (d : Int) : firstErr [regE r, momX r m, swE d] = rgdE r m d := by
 unfold rgdE
 by_cases h : regE r = 0
 ·rw [momX_eq m (regE_zero.1 h)]
 ·show (if regE r = 0 then _ else regE r) = (if regE r = 0 then _ else regE r)
  rw [if_neg h, if_neg h]
set_option maxHeartbeats 1000000 in
set_option maxRecDepth 100000 in
theorem regulated_any (r : Reg) (m : Mom) (d : Int) (w : World) :
    Calls Tryz.prog 69 #[.agg #[.int .i64 r.tgt, .int .i64 r.band, .int .i64 r.dly, .int .i64 r.stp, .int .i64 r.lo, .int .i64 r.hi], .agg #[.int .i64 m.tap, .int .i64 m.wait], .int .i64 d] w fun e' w' => e' = .returned (.int .i64 (rgdE r m d)) ∧ Below w.heap.size w w' := by
 have HC := Lib.hid (fun (W : World) => checkReg_any r W)
 have HMM := Lib.hid (fun (W : World) => moment_any r m W)
 have HSW := Lib.hid (fun (W : World) => swing_any d W)
 have hE := rgdE_eq r m d
 generalize rgdE r m d = V at *
 generalize regE r = E1 at *
 generalize momX r m = E2 at *
 generalize swE d = E3 at *
 have HE := Lib.hid hE
 clear hE
 obtain ⟨tgt, band, dly, stp, lo, hi⟩ := r
 obtain ⟨tap, wait⟩ := m
 simp only at HC HMM ⊢
 go_enter Tryz.func69, Tryz.ntmps69
 go_wp2_with fail
 refine later_of_eq 6 (by kernel_rfl) (by kernel_rfl) ?_; simp only [List.take_succ_cons, List.take_zero, List.drop_succ_cons, List.drop_zero]; repeat go_big_quiet_step(first | with_reducible exact calls_later (HC.out _) | with_reducible exact calls_later (HMM.out _))
 refine wpQuiet_nil ?_; intro w9 hb9
 have HB9 := Lib.hid ((show Below w.heap.size w ((w.alloc (Obj.cells #[.int .i64 tgt, .int .i64 band, .int .i64 dly, .int .i64 stp, .int .i64 lo, .int .i64 hi] 25)).alloc (Obj.cells #[.int .i64 tap, .int .i64 wait] 27)) by (first|exact bwg|go_size)).trans (hb9.mono (by simp; omega)))
 clear hb9
 go_wp2_with fail
 refine (HSW.out _).mono ?_
 rintro e10 w10 ⟨rfl, hb10⟩
 have HB10 := bwt HB9 hb10
 clear hb10
 go_wp2_with fail
 refine (t_first3 _ _ _ _ _ _ _ (by rfl) (by simp)).mono ?_
 rintro e8 w8 ⟨rfl, hw8⟩
 have HB8 := Lib.hid (HB10.out.trans ((show Below w10.heap.size w10 w8 by rw [← hw8]; (first|exact bwg|go_size)).mono HB10.out.size))
 clear hw8
 go_wp2
 go_ret
 exact ⟨ret_int HE.out, HB8.out⟩
def prdE (p : Pai) (d : Int) : Int := firstErr [regE p.a, regE p.b, momE p.a p.ma, momE p.b p.mb, swE d]
theorem prdE_eq (p : Pai) (d : Int) : firstErr [regE p.a, regE p.b, momX p.a p.ma, momX p.b p.mb, swE d] = prdE p d := by
 unfold prdE
 by_cases h : regE p.a = 0
 ·rw [momX_eq p.ma (regE_zero.1 h)]
  by_cases h2 : regE p.b = 0
  ·rw [momX_eq p.mb (regE_zero.1 h2)]
  ·show (if regE p.a = 0 then (if regE p.b = 0 then _ else regE p.b) else regE p.a) = (if regE p.a = 0 then (if regE p.b = 0 then _ else regE p.b) else regE p.a)
   rw [if_neg h2, if_neg h2]
 ·show (if regE p.a = 0 then _ else regE p.a) = (if regE p.a = 0 then _ else regE p.a)
  rw [if_neg h, if_neg h]
def paiC (p : Pai) : List Value := [.int .i64 p.a.tgt, .int .i64 p.a.band, .int .i64 p.a.dly, .int .i64 p.a.stp, .int .i64 p.a.lo, .int .i64 p.a.hi, .int .i64 p.b.tgt, .int .i64 p.b.band, .int .i64 p.b.dly, .int .i64 p.b.stp, .int .i64 p.b.lo, .int .i64 p.b.hi, .int .i64 p.ma.tap, .int .i64 p.ma.wait, .int .i64 p.mb.tap, .int .i64 p.mb.wait]
set_option maxHeartbeats 1000000 in
set_option maxRecDepth 100000 in
theorem pairErr_any (p : Pai) (d : Int) (w : World) :
    Calls Tryz.prog 38 #[.agg #[.int .i64 p.a.tgt, .int .i64 p.a.band, .int .i64 p.a.dly, .int .i64 p.a.stp, .int .i64 p.a.lo, .int .i64 p.a.hi, .int .i64 p.b.tgt, .int .i64 p.b.band, .int .i64 p.b.dly, .int .i64 p.b.stp, .int .i64 p.b.lo, .int .i64 p.b.hi, .int .i64 p.ma.tap, .int .i64 p.ma.wait, .int .i64 p.mb.tap, .int .i64 p.mb.wait], .int .i64 d] w fun e' w' => e' = .returned (.int .i64 (prdE p d)) ∧ Below w.heap.size w w' := by
 have HC := Lib.hid (fun (W : World) => checkReg_any p.a W)
 have HC2 := Lib.hid (fun (W : World) => checkReg_any p.b W)
 have HMM := Lib.hid (fun (W : World) => moment_any p.a p.ma W)
 have HM2 := Lib.hid (fun (W : World) => moment_any p.b p.mb W)
 have HSW := Lib.hid (fun (W : World) => swing_any d W)
 have hE := prdE_eq p d
 generalize prdE p d = V at *
 generalize regE p.a = E1 at *
 generalize regE p.b = E2 at *
 generalize momX p.a p.ma = E3 at *
 generalize momX p.b p.mb = E4 at *
 generalize swE d = E5 at *
 have HE := Lib.hid hE
 clear hE
 obtain ⟨⟨tgt, band, dly, stp, lo, hi⟩, ⟨tgt2, band2, dly2, stp2, lo2, hi2⟩, ⟨tap, wait⟩, ⟨tap2, wait2⟩⟩ := p
 simp only at HC HC2 HMM HM2 ⊢
 go_enter Tryz.func38, Tryz.ntmps38
 go_wp2_with fail
 refine later_of_eq 17 (by kernel_rfl) (by kernel_rfl) ?_; simp only [List.take_succ_cons, List.take_zero, List.drop_succ_cons, List.drop_zero]; repeat go_big_quiet_step(first | with_reducible exact calls_later (HC.out _) | with_reducible exact calls_later (HC2.out _) | with_reducible exact calls_later (HMM.out _) | with_reducible exact calls_later (HM2.out _))
 refine wpQuiet_nil ?_; intro w9 hb9
 have HB9 := Lib.hid ((show Below w.heap.size w (w.alloc (Obj.cells #[.int .i64 tgt, .int .i64 band, .int .i64 dly, .int .i64 stp, .int .i64 lo, .int .i64 hi, .int .i64 tgt2, .int .i64 band2, .int .i64 dly2, .int .i64 stp2, .int .i64 lo2, .int .i64 hi2, .int .i64 tap, .int .i64 wait, .int .i64 tap2, .int .i64 wait2] 29)) by (first|exact bwg|go_size)).trans (hb9.mono (by simp)))
 clear hb9
 go_wp2_with fail
 refine (HSW.out _).mono ?_
 rintro e10 w10 ⟨rfl, hb10⟩
 have HB10 := bwt HB9 hb10
 clear hb10
 go_wp2_with fail
 refine (t_first5 _ _ _ _ _ _ _ _ _ (by rfl) (by simp)).mono ?_
 rintro e8 w8 ⟨rfl, hw8⟩
 have HB8 := Lib.hid (HB10.out.trans ((show Below w10.heap.size w10 w8 by rw [← hw8]; (first|exact bwg|go_size)).mono HB10.out.size))
 clear hw8
 go_wp2
 go_ret
 exact ⟨ret_int HE.out, HB8.out⟩
end Go.Proofs.YtdjinmieogpgcaaGreat
