import Derived.Test.YthkekjgdknnaiaaGreatDOut
import Derived.Test.YthkekjgdknnaiaaGreatRCal
/- Pulses from outside, and the series without them: the reference's functions. -/
namespace Go.Proofs.YthkekjgdknnaiaaGreat
open Go.RowKit
set_option linter.unusedVariables false

set_option maxHeartbeats 1000000 in
set_option maxRecDepth 100000 in
theorem has_any (x : Int) (l : List Int) (a : Option Addr) (n c : Nat) (w : World) (hl : IntsR w a n l) :
    Calls Tryz.prog 42 #[.slice a n c, .int .i64 x] w fun e' w' => e' = .returned (.bool (l.any (fun q : Int => decide (x = q)))) ∧ w = w' := by
  have HL := Lib.hid hl
  have hn := hl.small
  clear hl
  obtain ⟨V, hV⟩ : ∃ V, V = l.any (fun q : Int => decide (x = q)) := ⟨_, rfl⟩
  have HV := Lib.hid hV
  rw [← hV]
  clear hV
  go_enter Tryz.func42, Tryz.ntmps42
  go_wp2_with fail
  go_loopw [5] (fun i wr => ∃ k : Nat, i = .int .i64 (k : Int) ∧ k ≤ n ∧ Hid (V = (l.drop k).any (fun q : Int => decide (x = q))) ∧ wr = w) (fun i _ => n - (intOf i).toNat)
  case atStart => exact ⟨0, rfl, Nat.zero_le _, HV, rfl⟩
  case round =>
    obtain ⟨k, rfl, hk, hF, rfl⟩ := hrel
    have i0 : (0 : Int) ≤ (k : Int) := by omega
    by_cases hlt : k < n
    · have i1 : (k : Int) < (n : Int) := by omega
      obtain ⟨b, o, rfl, hb, hc⟩ := HL.out.addr (by omega)
      have hck := hc k hlt
      clear hc
      have hF' := hF.out
      rw [drop_at l k 0 (by rw [HL.out.len]; exact hlt), List.any_cons] at hF'
      generalize l.getD k 0 = y at *
      by_cases hx : y = x
      · subst hx
        have HF := Lib.hid (show V = true by rw [hF']; simp)
        clear hF' hF
        go_wp2
        go_ret
        exact ⟨ret_bool HF.out.symm, rfl⟩
      · have HF := Lib.hid (show V = (l.drop (k + 1)).any (fun q : Int => decide (x = q)) by rw [hF', decide_eq_false (fun e => hx e.symm), Bool.false_or])
        have hx' : (y == x) = false := by simpa using hx
        clear hF' hF hx
        go_wp2
        go_roundw
        case rel => exact ⟨k + 1, by go_num, by omega, HF, by first | rfl | trivial⟩
        case measure => simp [intOf]; omega
    · obtain rfl : k = n := by omega
      have HF := Lib.hid (show V = false by rw [hF.out, List.drop_eq_nil_of_le (by rw [HL.out.len]; omega)]; rfl)
      go_wp2
      go_ret
      exact ⟨ret_bool HF.out.symm, rfl⟩
set_option maxHeartbeats 1000000 in
set_option maxRecDepth 100000 in
theorem rOutsideErr_any (s o : Ser) (win : Int) (ap bp : Option Addr) (n cp m dp : Nat) (w : World) (hs : SerW s) (ho : SerW o) (hl : T3R w ap n s.l) (hm : T3R w bp m o.l) :
    Calls Tryz.prog 36 #[.agg #[.string s.nm, .int .i64 s.per, .int .i64 s.least, .int .i64 s.a, .int .i64 s.b, .int .i64 s.c, .int .i64 s.d, .slice ap n cp], .agg #[.string o.nm, .int .i64 o.per, .int .i64 o.least, .int .i64 o.a, .int .i64 o.b, .int .i64 o.c, .int .i64 o.d, .slice bp m dp], .int .i64 win] w fun e' w' => e' = .returned (.int .i64 (outE s o win)) ∧ Below w.heap.size w w' := by
  have HS := Lib.hid (fun (W : World) (hb : Below w.heap.size w W) => rSeriesErr_any s ap n cp W hs (hl.below hb))
  have HO := Lib.hid (fun (W : World) (hb : Below w.heap.size w W) => rSeriesErr_any o bp m dp W ho (hm.below hb))
  have HX := Lib.hid (fun w' => bwithin_any win 0 1000000 w')
  have HE := Lib.hid (show outE s o win = firstErr [(serE s).2, (serE o).2, unl (wi win 0 1000000) 2] from rfl)
  clear hl hm hs ho
  generalize outE s o win = E at *
  generalize (serE s).2 = E1 at *
  generalize (serE o).2 = E2 at *
  generalize wi win 0 1000000 = B1 at *
  obtain ⟨snm, sper, sleast, sa, sb, sc, sd, sl⟩ := s
  obtain ⟨onm, oper, oleast, oa, ob, oc, od, ol⟩ := o
  simp only at *
  go_enter Tryz.func36, Tryz.ntmps36
  go_wp2_with fail
  generalize hW : World.alloc _ _ = w4
  have hb4 : Below w.heap.size w w4 := by rw [← hW]; (repeat' (first | (with_reducible exact Below.refl _ _) | (with_reducible assumption) | (with_reducible refine Below.drewN ?_ _) | (with_reducible refine Below.alloc ?_ ?_ _) | (with_reducible refine Below.drew ?_) | (with_reducible refine Below.setCell ?_ ?_ _) | (with_reducible refine Below.step (by assumption) ?_ ?_) | (with_reducible exact And.left (by assumption)) | go_size))
  have y0 : w4.cell? ⟨w.heap.size + 1, 0, none⟩ = some (.string onm) := by { rw [← hW]; clear hW; go_simp }
  have y1 : w4.cell? ⟨w.heap.size + 1, 1, none⟩ = some (.int .i64 oper) := by { rw [← hW]; clear hW; go_simp }
  have y2 : w4.cell? ⟨w.heap.size + 1, 2, none⟩ = some (.int .i64 oleast) := by { rw [← hW]; clear hW; go_simp }
  have y3 : w4.cell? ⟨w.heap.size + 1, 3, none⟩ = some (.int .i64 oa) := by { rw [← hW]; clear hW; go_simp }
  have y4 : w4.cell? ⟨w.heap.size + 1, 4, none⟩ = some (.int .i64 ob) := by { rw [← hW]; clear hW; go_simp }
  have y5 : w4.cell? ⟨w.heap.size + 1, 5, none⟩ = some (.int .i64 oc) := by { rw [← hW]; clear hW; go_simp }
  have y6 : w4.cell? ⟨w.heap.size + 1, 6, none⟩ = some (.int .i64 od) := by { rw [← hW]; clear hW; go_simp }
  have y7 : w4.cell? ⟨w.heap.size + 1, 7, none⟩ = some (.slice bp m dp) := by { rw [← hW]; clear hW; go_simp }
  have l1 : w.heap.size + 1 < w4.heap.size := by { rw [← hW]; clear hW; simp }
  have HB := Lib.hid hb4
  clear hW hb4
  refine (HS.out _ HB.out).mono ?_
  rintro e5 w5 ⟨rfl, hb5⟩
  have hz5 := hb5.size
  have y0d : w5.cell? ⟨w.heap.size + 1, 0, none⟩ = some (.string onm) := by { rw [cellB hb5 _ _ (by first | (simp; done) | (simp; omega) | omega)]; all_goals (first | assumption | go_simp) }; have y1d : w5.cell? ⟨w.heap.size + 1, 1, none⟩ = some (.int .i64 oper) := by { rw [cellB hb5 _ _ (by first | (simp; done) | (simp; omega) | omega)]; all_goals (first | assumption | go_simp) }; have y2d : w5.cell? ⟨w.heap.size + 1, 2, none⟩ = some (.int .i64 oleast) := by { rw [cellB hb5 _ _ (by first | (simp; done) | (simp; omega) | omega)]; all_goals (first | assumption | go_simp) }; have y3d : w5.cell? ⟨w.heap.size + 1, 3, none⟩ = some (.int .i64 oa) := by { rw [cellB hb5 _ _ (by first | (simp; done) | (simp; omega) | omega)]; all_goals (first | assumption | go_simp) }; have y4d : w5.cell? ⟨w.heap.size + 1, 4, none⟩ = some (.int .i64 ob) := by { rw [cellB hb5 _ _ (by first | (simp; done) | (simp; omega) | omega)]; all_goals (first | assumption | go_simp) }; have y5d : w5.cell? ⟨w.heap.size + 1, 5, none⟩ = some (.int .i64 oc) := by { rw [cellB hb5 _ _ (by first | (simp; done) | (simp; omega) | omega)]; all_goals (first | assumption | go_simp) }; have y6d : w5.cell? ⟨w.heap.size + 1, 6, none⟩ = some (.int .i64 od) := by { rw [cellB hb5 _ _ (by first | (simp; done) | (simp; omega) | omega)]; all_goals (first | assumption | go_simp) }; have y7d : w5.cell? ⟨w.heap.size + 1, 7, none⟩ = some (.slice bp m dp) := by { rw [cellB hb5 _ _ (by first | (simp; done) | (simp; omega) | omega)]; all_goals (first | assumption | go_simp) }; have l1d : w.heap.size + 1 < w5.heap.size := by { omega }
  have HB := Lib.hid (HB.out.trans (hb5.mono HB.out.size))
  clear hb5 hz5 HS l1 y0 y1 y2 y3 y4 y5 y6 y7
  by_cases h1 : E1 = 0
  · subst h1
    go_wp2_with fail
    refine (HO.out _ HB.out).mono ?_
    rintro e6 w6 ⟨rfl, hb6⟩
    have HB := Lib.hid (HB.out.trans (hb6.mono HB.out.size))
    clear hb6 HO
    by_cases h2 : E2 = 0
    · subst h2
      go_wp2_with fail
      refine (HX.out _).mono ?_
      rintro e7 w7 ⟨rfl, rfl⟩
      cases B1
      · obtain rfl : E = 2 := by rw [HE.out]; simp [firstErr, unl]
        go_wp2
        go_ret
        exact ⟨rfl, HB.out⟩
      · obtain rfl : E = 0 := by rw [HE.out]; simp [firstErr, unl]
        go_wp2
        go_ret
        exact ⟨rfl, HB.out⟩
    · obtain rfl : E = E2 := by rw [HE.out]; simp [firstErr, h2]
      have s1 := bne_iff_ne.2 h2
      clear h2 HE
      go_wp2
      go_ret
      exact ⟨rfl, HB.out⟩
  · obtain rfl : E = E1 := by rw [HE.out]; simp [firstErr, h1]
    have s1 := bne_iff_ne.2 h1
    clear h1 HE
    go_wp2
    go_ret
    exact ⟨rfl, HB.out⟩
theorem isO_drop {ol : List T3} {win : Int} {p q : T3} {k : Nat} (h : ol[k]? = some q) : isO (ol.drop k) win p = (decide (sz (p.x - q.x) ≤ win) || isO (ol.drop (k + 1)) win p) := by
  unfold isO
  rw [drop_consP h, List.any_cons]
set_option maxHeartbeats 2000000 in
set_option maxRecDepth 100000 in
theorem rFromOutside_any (s o : Ser) (win : Int) (ap bp : Option Addr) (n cp m dp : Nat) (w : World) (hl : T3R w ap n s.l) (hm : T3R w bp m o.l) (h0 : outE s o win = 0) :
    Calls Tryz.prog 38 #[.agg #[.string s.nm, .int .i64 s.per, .int .i64 s.least, .int .i64 s.a, .int .i64 s.b, .int .i64 s.c, .int .i64 s.d, .slice ap n cp], .agg #[.string o.nm, .int .i64 o.per, .int .i64 o.least, .int .i64 o.a, .int .i64 o.b, .int .i64 o.c, .int .i64 o.d, .slice bp m dp], .int .i64 win] w fun e' w' => ∃ a' k' c', e' = .returned (.slice a' k' c') ∧ Below w.heap.size w w' ∧ IntsT w' a' k' (nats (frO s.l o.l win n)) := by
  have hn60 : n ≤ 60 := by rw [← hl.len]; exact ser_60 (outE_zero h0).1
  have hm60 : m ≤ 60 := by rw [← hm.len]; exact ser_60 (outE_zero h0).2.1
  have HX1 := Lib.hid (ser_x (outE_zero h0).1)
  have HX2 := Lib.hid (ser_x (outE_zero h0).2.1)
  have HSL := Lib.hid hl
  have HOL := Lib.hid hm
  clear hl hm h0
  obtain ⟨snm, sper, sleast, sa, sb, sc, sd, sl⟩ := s
  obtain ⟨onm, oper, oleast, oa, ob, oc, od, ol⟩ := o
  simp only at *
  go_enter Tryz.func38, Tryz.ntmps38
  go_wp2_with fail
  generalize hW : World.alloc _ _ = w4
  have hb4 : Below w.heap.size w w4 := by rw [← hW]; (repeat' (first | (with_reducible exact Below.refl _ _) | (with_reducible assumption) | (with_reducible refine Below.drewN ?_ _) | (with_reducible refine Below.alloc ?_ ?_ _) | (with_reducible refine Below.drew ?_) | (with_reducible refine Below.setCell ?_ ?_ _) | (with_reducible refine Below.step (by assumption) ?_ ?_) | (with_reducible exact And.left (by assumption)) | go_size))
  have x7 : w4.cell? ⟨w.heap.size, 7, none⟩ = some (.slice ap n cp) := by { rw [← hW]; clear hW; go_simp }
  have y7 : w4.cell? ⟨w.heap.size + 1, 7, none⟩ = some (.slice bp m dp) := by { rw [← hW]; clear hW; go_simp }
  have l1 : w.heap.size + 1 < w4.heap.size := by { rw [← hW]; clear hW; simp }
  have l0 : w.heap.size < w4.heap.size := by omega
  have HB := Lib.hid hb4
  clear hW hb4
  go_loopw [7, 8] (fun v i wr => ∃ (k q : Nat) (av : Option Addr) (cv : Nat), i = .int .i64 (k : Int) ∧ v = .slice av q cv ∧ k ≤ n ∧ q ≤ k ∧ Hid (wr.ownsRow w4.heap.size 3 1 (.slice av q cv) q (icells (nats (frO sl ol win k)))) ∧ Hid (Below w4.heap.size w4 wr)) (fun _ i _ => n - (intOf i).toNat)
  case atStart => exact ⟨0, 0, none, 0, rfl, rfl, Nat.zero_le _, Nat.le_refl _, Lib.hid (World.ownsRow_nil _ _ _ _), Lib.hid (Below.refl _ _)⟩
  case round =>
    obtain ⟨k, q, av, cv, rfl, rfl, hk, hq, hO, hB⟩ := hrel
    obtain ⟨wq, rfl⟩ : ∃ w', w' = wr := ⟨wr, rfl⟩
    have i0 : (0 : Int) ≤ (k : Int) := by omega
    have hbr := hB.out
    have hzr := hbr.size
    have HBW := Lib.hid (HB.out.trans (hbr.mono HB.out.size))
    have x7d : wq.cell? ⟨w.heap.size, 7, none⟩ = some (.slice ap n cp) := by { rw [cellB hbr _ _ (by first | (simp; done) | (simp; omega) | omega)]; all_goals (first | assumption | go_simp) }; have y7d : wq.cell? ⟨w.heap.size + 1, 7, none⟩ = some (.slice bp m dp) := by { rw [cellB hbr _ _ (by first | (simp; done) | (simp; omega) | omega)]; all_goals (first | assumption | go_simp) }; have l0d : w.heap.size < wq.heap.size := by { omega }; have l1d : w.heap.size + 1 < wq.heap.size := by { omega }
    clear hbr
    by_cases hlt : k < n
    · have i1 : (k : Int) < (n : Int) := by omega
      obtain ⟨b0, o0, rfl, hb0, hcs⟩ := (HSL.out.below HBW.out).addr (by omega)
      obtain ⟨⟨px, py, pz⟩, hx⟩ := ER.get HSL.out hlt
      obtain ⟨c0, _, _⟩ := hcs k _ hx
      have hpx := HX1.out _ (List.mem_of_getElem? hx)
      have HFS := Lib.hid (show frO sl ol win (k + 1) = if isO ol win ⟨px, py, pz⟩ = true then frO sl ol win k ++ [k] else frO sl ol win k by rw [frO_succ, pAt_get hx])
      simp only at c0 hpx
      clear hcs hx
      go_wp2_with fail
      go_loopw [9, 10] (fun g i wx => ∃ (j : Nat) (f : Bool), i = .int .i64 (j : Int) ∧ g = .bool f ∧ j ≤ m ∧ Hid (isO ol win ⟨px, py, pz⟩ = (f || isO (ol.drop j) win ⟨px, py, pz⟩)) ∧ Hid (Below wq.heap.size wq wx)) (fun _ i _ => m - (intOf i).toNat)
      case atStart => exact ⟨0, false, rfl, rfl, Nat.zero_le _, Lib.hid rfl, Lib.hid (Below.refl _ _)⟩
      case round =>
        obtain ⟨j, f, rfl, rfl, hj, hG, hC⟩ := hrel
        have j0 : (0 : Int) ≤ (j : Int) := by omega
        have hbx := hC.out
        have hzx := hbx.size
        have HBX := Lib.hid (HBW.out.trans (hbx.mono HBW.out.size))
        have x7e : wr.cell? ⟨w.heap.size, 7, none⟩ = some (.slice (some ⟨b0, o0, none⟩) n cp) := by { rw [cellB hbx _ _ (by first | (simp; done) | (simp; omega) | omega)]; all_goals (first | assumption | go_simp) }; have y7e : wr.cell? ⟨w.heap.size + 1, 7, none⟩ = some (.slice bp m dp) := by { rw [cellB hbx _ _ (by first | (simp; done) | (simp; omega) | omega)]; all_goals (first | assumption | go_simp) }; have c0e : wr.cell? ⟨b0, o0 + k * 3, none⟩ = some (.int .i64 px) := by { rw [cellB hbx _ _ (by first | (simp; done) | (simp; omega) | omega)]; all_goals (first | assumption | go_simp) }; have l0e : w.heap.size < wr.heap.size := by { omega }; have l1e : w.heap.size + 1 < wr.heap.size := by { omega }; have b0e : b0 < wr.heap.size := by { omega }
        clear hbx
        by_cases hltj : j < m
        · have j1 : (j : Int) < (m : Int) := by omega
          obtain ⟨b2, o2, rfl, hb2, hcs2⟩ := (HOL.out.below HBX.out).addr (by omega)
          obtain ⟨⟨qx, qy, qz⟩, hy⟩ := ER.get HOL.out hltj
          obtain ⟨s0, _, _⟩ := hcs2 j _ hy
          have hqx := HX2.out _ (List.mem_of_getElem? hy)
          have hdr := isO_drop (win := win) (p := ⟨px, py, pz⟩) hy
          simp only at s0 hqx hdr
          clear hcs2 hy
          have HSZ := Lib.hid (fun w' => bsize_any (px - qx) w' (by omega) (by omega))
          have w1 : IntKind.i64.wrap (px - qx) = px - qx := by rw [IntKind.wrap_i64]; omega
          cases f
          · have HG := Lib.hid (show isO ol win ⟨px, py, pz⟩ = (decide (sz (px - qx) ≤ win) || isO (ol.drop (j + 1)) win ⟨px, py, pz⟩) by rw [hG.out, Bool.false_or, hdr])
            generalize sz (px - qx) = D at *
            clear hdr hqx hG
            go_wp2_with fail
            refine later_all (by kernel_rfl) (by kernel_rfl) ?_; repeat go_big_quiet_step((with_reducible exact calls_later_same (HSZ.out _)))
            refine wpQuiet_nil ?_; intro w9 hb9
            have HC9 := Lib.hid (hC.out.trans (hb9.mono hC.out.size))
            clear hb9
            go_wp2
            go_roundw
            case rel => exact ⟨j + 1, _, by go_num, rfl, by omega, HG, HC9⟩
            case measure => simp [intOf]; omega
          · have HG := Lib.hid (show isO ol win ⟨px, py, pz⟩ = (true || isO (ol.drop (j + 1)) win ⟨px, py, pz⟩) by rw [hG.out]; rfl)
            clear hdr hqx hG
            go_wp2_with fail
            refine later_all (by kernel_rfl) (by kernel_rfl) ?_; repeat go_big_quiet_step((with_reducible exact calls_later_same (HSZ.out _)))
            refine wpQuiet_nil ?_; intro w9 hb9
            have HC9 := Lib.hid (hC.out.trans (hb9.mono hC.out.size))
            clear hb9
            go_wp2
            go_roundw
            case rel => exact ⟨j + 1, true, by go_num, rfl, by omega, HG, HC9⟩
            case measure => simp [intOf]; omega
        · obtain rfl : j = m := by omega
          have HG := Lib.hid (show isO ol win ⟨px, py, pz⟩ = f by rw [hG.out, List.drop_eq_nil_of_le (by rw [ER.len HOL.out]; omega)]; simp [isO])
          rw [HG.out] at HFS
          have HO := Lib.hid (owns_below hO.out hC.out (fun z hz => (hO.out.lt z hz).2))
          have HBR := Lib.hid (hB.out.trans (hC.out.mono hB.out.size))
          have hzb := HBR.out.size
          clear hG HG hO hC hB
          cases f
          · rw [if_neg (by decide)] at HFS
            rw [← HFS.out] at HO
            go_wp2
            go_roundw
            case rel => exact ⟨k + 1, q, av, cv, by go_num, rfl, by omega, by omega, HO, HBR⟩
            case measure => simp [intOf]; omega
          · rw [if_pos rfl] at HFS
            go_wp2_with (at_builtin; refine wpList_append_sl _ rfl _ _ 26 rfl w4.heap.size 3 _ 1 8 Tryz.underlying26 infoInt rfl (by omega) (.slice av q cv) q _ rfl (HO.out.alloc _) _ 1 1 [.int .i64 (k : Int)] rfl (SlR.lit _ _ _ _ _ 1 1 (by rfl) (by simp) rfl (by omega)) (by simp [Value.oneCell']) (by omega) (by omega) (by simp; omega) ?_)
            intro v2 w2' hown2 hgr2 hb2'
            obtain ⟨av2, cv2, rfl, _, _⟩ := owns_slice hown2
            rw [← nats_snocD, ← HFS.out] at hown2
            have HO2 := Lib.hid hown2
            have HB2 := Lib.hid ((HBR.out.alloc (by omega) _).trans hb2')
            clear hown2 hgr2 hb2' HO
            go_wp2
            go_roundw
            case rel => exact ⟨k + 1, q + 1, av2, cv2, by go_num, rfl, by omega, by omega, HO2, HB2⟩
            case measure => simp [intOf]; omega
    · obtain rfl : k = n := by omega
      go_wp2
      go_ret
      exact ⟨av, q, cv, rfl, HBW.out, IntsT.of_owns hO.out⟩
set_option maxHeartbeats 2000000 in
set_option maxRecDepth 100000 in
theorem rCleaned_any (s : Ser) (ol : List T3) (win : Int) (ap aF : Option Addr) (n cp kF cF : Nat) (w : World) (hl : T3R w ap n s.l) (hF : IntsR w aF kF (nats (frO s.l ol win n))) (hn60 : n ≤ 60) :
    Calls Tryz.prog 40 #[.agg #[.string s.nm, .int .i64 s.per, .int .i64 s.least, .int .i64 s.a, .int .i64 s.b, .int .i64 s.c, .int .i64 s.d, .slice ap n cp], .slice aF kF cF] w fun e' w' => ∃ a' k' c', e' = .returned (.agg #[.string s.nm, .int .i64 s.per, .int .i64 s.least, .int .i64 s.a, .int .i64 s.b, .int .i64 s.c, .int .i64 s.d, .slice a' k' c']) ∧ Below w.heap.size w w' ∧ T3R w' a' k' (clO s.l ol win) := by
  have HCS := Lib.hid (fun (W : World) (hb : Below w.heap.size w W) => copySeries_any s ap n cp W (hl.below hb) (by omega))
  have HSL := Lib.hid hl
  have HLN := Lib.hid hl.len
  have HI := Lib.hid hF
  clear hl hF
  obtain ⟨snm, sper, sleast, sa, sb, sc, sd, sl⟩ := s
  simp only at *
  go_enter Tryz.func40, Tryz.ntmps40
  go_wp2_with fail
  obtain ⟨w4, hW⟩ : ∃ w4, w4 = (w.alloc (Obj.cells #[.string snm, .int .i64 sper, .int .i64 sleast, .int .i64 sa, .int .i64 sb, .int .i64 sc, .int .i64 sd, .slice ap n cp] 56)).alloc (Obj.cells #[.string ⟨#[]⟩, .int .i64 0, .int .i64 0, .int .i64 0, .int .i64 0, .int .i64 0, .int .i64 0, .slice none 0 0] 56) := ⟨_, rfl⟩
  rw [← hW]
  have hb4 : Below w.heap.size w w4 := by rw [hW]; (repeat' (first | (with_reducible exact Below.refl _ _) | (with_reducible assumption) | (with_reducible refine Below.drewN ?_ _) | (with_reducible refine Below.alloc ?_ ?_ _) | (with_reducible refine Below.drew ?_) | (with_reducible refine Below.setCell ?_ ?_ _) | (with_reducible refine Below.step (by assumption) ?_ ?_) | (with_reducible exact And.left (by assumption)) | go_size))
  have k0 : w4.heap[w.heap.size]? = some (Obj.cells #[.string snm, .int .i64 sper, .int .i64 sleast, .int .i64 sa, .int .i64 sb, .int .i64 sc, .int .i64 sd, .slice ap n cp] 56) := by
    rw [hW, Below.heap_alloc _ _ _ (by simp)]; exact heap_alloc_new _ _
  have k1 : w4.heap[w.heap.size + 1]? = some (Obj.cells #[.string ⟨#[]⟩, .int .i64 0, .int .i64 0, .int .i64 0, .int .i64 0, .int .i64 0, .int .i64 0, .slice none 0 0] 56) := by
    rw [hW]
    have := heap_alloc_new (w.alloc (Obj.cells #[.string snm, .int .i64 sper, .int .i64 sleast, .int .i64 sa, .int .i64 sb, .int .i64 sc, .int .i64 sd, .slice ap n cp] 56)) (Obj.cells #[.string ⟨#[]⟩, .int .i64 0, .int .i64 0, .int .i64 0, .int .i64 0, .int .i64 0, .int .i64 0, .slice none 0 0] 56)
    simpa using this
  have hz4 : w4.heap.size = w.heap.size + 2 := by rw [hW]; simp
  have HB := Lib.hid hb4
  clear hW hb4
  refine (HCS.out _ HB.out).mono ?_
  rintro e5 w5 ⟨a5, c5, rfl, hb5, ht5, _⟩
  have hz5 := hb5.size
  have k0 := blk_below k0 hb5
  have k1 := blk_below k1 hb5
  have HB := Lib.hid (HB.out.trans (hb5.mono HB.out.size))
  clear hb5 HCS
  go_wp2_with fail
  obtain ⟨w6, hW⟩ : ∃ w6, w6 = w5.alloc (Obj.cells #[.string snm, .int .i64 sper, .int .i64 sleast, .int .i64 sa, .int .i64 sb, .int .i64 sc, .int .i64 sd, .slice none 0 0] 56) := ⟨_, rfl⟩
  rw [← hW]
  obtain ⟨BO, hBO⟩ : ∃ X, X = w5.heap.size := ⟨_, rfl⟩
  have hb6 : Below w5.heap.size w5 w6 := by rw [hW]; (repeat' (first | (with_reducible exact Below.refl _ _) | (with_reducible assumption) | (with_reducible refine Below.drewN ?_ _) | (with_reducible refine Below.alloc ?_ ?_ _) | (with_reducible refine Below.drew ?_) | (with_reducible refine Below.setCell ?_ ?_ _) | (with_reducible refine Below.step (by assumption) ?_ ?_) | (with_reducible exact And.left (by assumption)) | go_size))
  have k5 : w6.heap[BO]? = some (Obj.cells #[.string snm, .int .i64 sper, .int .i64 sleast, .int .i64 sa, .int .i64 sb, .int .i64 sc, .int .i64 sd, .slice none 0 0] 56) := by rw [hW, hBO]; exact heap_alloc_new _ _
  have k0 := blk_below k0 hb6
  have k1 := blk_below k1 hb6
  have hz6 : w6.heap.size = BO + 1 := by rw [hW, hBO]; simp
  have HB := Lib.hid (HB.out.trans (hb6.mono HB.out.size))
  have x7 : w6.cell? ⟨w.heap.size, 7, none⟩ = some (.slice ap n cp) := blk_cell k0 (i := 7) rfl
  have l0 : w.heap.size < BO := by omega
  have l1 : w.heap.size + 1 < BO := by omega
  have hzB : BO < w6.heap.size := by omega
  rw [← hBO]
  clear hW hb6 ht5 hBO hz4 hz5
  go_loopw [6] (fun i wr => ∃ (k q : Nat) (av : Option Addr) (cv : Nat), i = .int .i64 (k : Int) ∧ k ≤ n ∧ q ≤ k ∧ Hid (wr.heap[BO]? = some (Obj.cells #[.string snm, .int .i64 sper, .int .i64 sleast, .int .i64 sa, .int .i64 sb, .int .i64 sc, .int .i64 sd, .slice av q cv] 56)) ∧ Hid (wr.ownsRow (BO + 1) 127 3 (.slice av q cv) q (ecells e3 (clO (sl.take k) ol win))) ∧ Hid (Below BO w6 wr)) (fun i _ => n - (intOf i).toNat)
  case atStart => exact ⟨0, 0, none, 0, rfl, Nat.zero_le _, Nat.le_refl _, Lib.hid k5, Lib.hid (World.ownsRow_nil _ _ _ _), Lib.hid (Below.refl _ _)⟩
  case round =>
    obtain ⟨k, q, av, cv, rfl, hk, hq, hK5, hO, hB⟩ := hrel
    have i0 : (0 : Int) ≤ (k : Int) := by omega
    have hbr := hB.out
    have hzr := hbr.size
    have HBW := Lib.hid (HB.out.trans (hbr.mono (by omega)))
    have x7d : wr.cell? ⟨w.heap.size, 7, none⟩ = some (.slice ap n cp) := by { rw [cellB hbr _ _ (by first | (simp; done) | (simp; omega) | omega)]; all_goals (first | assumption | go_simp) }
    have lw : w.heap.size < wr.heap.size := by omega
    clear hbr
    by_cases hlt : k < n
    · have i1 : (k : Int) < (n : Int) := by omega
      obtain ⟨b0, o0, rfl, hb0, hcs⟩ := (HSL.out.below HBW.out).addr (by omega)
      obtain ⟨⟨px, py, pz⟩, hx⟩ := ER.get HSL.out hlt
      obtain ⟨c0, c1, c2⟩ := hcs k _ hx
      have hbb0 : b0 < BO := by
        obtain ⟨b1, o1, e, hb1, _⟩ := HSL.out.addr (by omega)
        simp only [Option.some.injEq, Addr.mk.injEq] at e
        omega
      have hA := pAt_get hx
      have hks : k < sl.length := by rw [HLN.out]; exact hlt
      have HFA := Lib.hid (show ((nats (frO sl ol win n)).any (fun q => decide ((k : Int) = q))) = isO ol win ⟨px, py, pz⟩ by rw [fr_any hlt, hA])
      have HCS := Lib.hid (show clO (sl.take (k + 1)) ol win = if isO ol win ⟨px, py, pz⟩ = true then clO (sl.take k) ol win else clO (sl.take k) ol win ++ [⟨px, py, pz⟩] by rw [clO_take sl ol win hks, hA])
      simp only at c0 c1 c2
      clear hcs hx hA hks
      go_wp2_with fail
      refine (has_any (k : Int) _ aF kF cF wr (HI.out.below HBW.out)).mono ?_
      rintro e10 wb ⟨rfl, rfl⟩
      rw [HFA.out]
      clear HFA
      generalize isO ol win ⟨px, py, pz⟩ = bb at *
      cases bb
      rotate_left
      · rw [if_pos rfl] at HCS
        rw [← HCS.out] at hO
        go_wp2
        go_roundw
        case rel => exact ⟨k + 1, q, av, cv, by go_num, by omega, by omega, hK5, hO, hB⟩
        case measure => simp [intOf]; omega
      · rw [if_neg (by decide)] at HCS
        have y7 : wr.cell? ⟨BO, 7, none⟩ = some (.slice av q cv) := blk_cell hK5.out (i := 7) rfl
        have g7 := blk_fz hK5.out 7
        have lb : BO < wr.heap.size := by omega
        have HT := Lib.hid (show ecells e3 (clO (sl.take (k + 1)) ol win) = ecells e3 (clO (sl.take k) ol win) ++ [.int .i64 px, .int .i64 py, .int .i64 pz] by rw [HCS.out, ecells_append, ecells_one]; rfl)
        go_wp2_with fail
        refine wp_region_laterZ (B := BO + 1) [0, 1, 2, 3, 4, 5, 6] [7, 8, 9, 10] 10 (by kernel_rfl) (by kernel_rfl) ?_; simp only [List.filterMap_cons, List.filterMap_nil, List.getElem?_cons_zero, List.getElem?_cons_succ]; repeat (show wpQuiet _ _ _ _ (_ :: _) _; go_big_quiet_step (fail))
        refine wpQuiet_nil ?_
        refine tailZ_cons ?_
        go_wp2_with fail
        have HNb := Lib.hid (show Below (BO + 1) wr (wr.alloc (Obj.cells #[.int .i64 px, .int .i64 py, .int .i64 pz] 127)).drew by (repeat' (first | (with_reducible exact Below.refl _ _) | (with_reducible assumption) | (with_reducible refine Below.drewN ?_ _) | (with_reducible refine Below.alloc ?_ ?_ _) | (with_reducible refine Below.drew ?_) | (with_reducible refine Below.setCell ?_ ?_ _) | (with_reducible refine Below.step (by assumption) ?_ ?_) | (with_reducible exact And.left (by assumption)) | go_size)))
        refine tailL_mk HNb.out ?_
        refine tailZ_cons ?_
        go_wp2_with (at_builtin; refine wpList_append_sl _ rfl _ _ 54 rfl (BO + 1) 127 _ 3 24 Tryz.underlying54 infoPul rfl (by omega) (.slice av q cv) q _ rfl ((hO.out.alloc _).drew) _ 1 1 [.int .i64 px, .int .i64 py, .int .i64 pz] rfl (SlR.lit _ _ _ _ _ 1 3 (by rfl) (by simp) rfl (by omega)) (by simp [Value.oneCell']) (by omega) (by omega) (by simp; omega) ?_)
        intro v2 wz hownz _ hbz
        obtain ⟨av2, cv2, rfl, _, _⟩ := owns_slice hownz
        rw [← HT.out] at hownz
        have hbz' : Below (BO + 1) wr wz := HNb.out.trans hbz
        have hzz := hbz'.size
        have HKZ := Lib.hid ((hbz'.block BO (by omega)).trans hK5.out)
        have coz : wz.cell? ⟨BO, 7, none⟩ = some (.slice av q cv) := blk_cell HKZ.out (i := 7) rfl
        have foz := blk_fz HKZ.out 7
        have loz : BO < wz.heap.size := by omega
        have HOZ := Lib.hid hownz
        have HBZ := Lib.hid hbz'
        clear hownz hbz hbz' y7 g7 lb HT HCS
        go_wp2_with fail
        refine tailL_mk HBZ.out ?_
        refine tailZ_cons ?_
        go_wp2_with fail
        refine tailL_mk HBZ.out ?_
        refine tailZ_last ?_
        go_wp2_with fail
        refine tailZ_end ?_
        go_wp2
        go_roundw
        case rel => exact ⟨k + 1, q + 1, av2, cv2, by go_num, by omega, by omega, Lib.hid (blk_set HKZ.out 7 _), Lib.hid (ownsRow_setCell_below HOZ.out (a := ⟨BO, 7, none⟩) (by simp) _), Lib.hid (Below.setCell (hB.out.trans (HBZ.out.mono (Nat.le_succ BO))) (by simp) _)⟩
        case measure => simp [intOf]; omega
    · obtain rfl : k = n := by omega
      have hO := hO.out
      rw [List.take_of_length_le (by rw [HLN.out]; omega)] at hO
      have HO := Lib.hid hO
      have hk5 := hK5.out
      have hk1 := (hB.out.block (w.heap.size + 1) l1).trans k1
      have lb : BO < wr.heap.size := by omega
      have lb1 : w.heap.size + 1 < wr.heap.size := by omega
      clear hO hK5
      have x0 : wr.cell? ⟨BO, 0, none⟩ = some (.string snm) := blk_cell hk5 (i := 0) rfl
      have z0 := blk_cell hk1 (i := 0) rfl
      have f0 := blk_fz hk1 0
      have x1 : wr.cell? ⟨BO, 1, none⟩ = some (.int .i64 sper) := blk_cell hk5 (i := 1) rfl
      have z1 := blk_cell hk1 (i := 1) rfl
      have f1 := blk_fz hk1 1
      have x2 : wr.cell? ⟨BO, 2, none⟩ = some (.int .i64 sleast) := blk_cell hk5 (i := 2) rfl
      have z2 := blk_cell hk1 (i := 2) rfl
      have f2 := blk_fz hk1 2
      have x3 : wr.cell? ⟨BO, 3, none⟩ = some (.int .i64 sa) := blk_cell hk5 (i := 3) rfl
      have z3 := blk_cell hk1 (i := 3) rfl
      have f3 := blk_fz hk1 3
      have x4 : wr.cell? ⟨BO, 4, none⟩ = some (.int .i64 sb) := blk_cell hk5 (i := 4) rfl
      have z4 := blk_cell hk1 (i := 4) rfl
      have f4 := blk_fz hk1 4
      have x5 : wr.cell? ⟨BO, 5, none⟩ = some (.int .i64 sc) := blk_cell hk5 (i := 5) rfl
      have z5 := blk_cell hk1 (i := 5) rfl
      have f5 := blk_fz hk1 5
      have x6 : wr.cell? ⟨BO, 6, none⟩ = some (.int .i64 sd) := blk_cell hk5 (i := 6) rfl
      have z6 := blk_cell hk1 (i := 6) rfl
      have f6 := blk_fz hk1 6
      have x7 : wr.cell? ⟨BO, 7, none⟩ = some (.slice av q cv) := blk_cell hk5 (i := 7) rfl
      have z7 := blk_cell hk1 (i := 7) rfl
      have f7 := blk_fz hk1 7
      clear hk5 hk1
      go_wp2_with fail
      generalize hW : World.setCell _ _ _ = w9
      have r0 : w9.cell? ⟨w.heap.size + 1, 0, none⟩ = some (.string snm) := by { rw [← hW]; clear hW; go_simp }
      have r1 : w9.cell? ⟨w.heap.size + 1, 1, none⟩ = some (.int .i64 sper) := by { rw [← hW]; clear hW; go_simp }
      have r2 : w9.cell? ⟨w.heap.size + 1, 2, none⟩ = some (.int .i64 sleast) := by { rw [← hW]; clear hW; go_simp }
      have r3 : w9.cell? ⟨w.heap.size + 1, 3, none⟩ = some (.int .i64 sa) := by { rw [← hW]; clear hW; go_simp }
      have r4 : w9.cell? ⟨w.heap.size + 1, 4, none⟩ = some (.int .i64 sb) := by { rw [← hW]; clear hW; go_simp }
      have r5 : w9.cell? ⟨w.heap.size + 1, 5, none⟩ = some (.int .i64 sc) := by { rw [← hW]; clear hW; go_simp }
      have r6 : w9.cell? ⟨w.heap.size + 1, 6, none⟩ = some (.int .i64 sd) := by { rw [← hW]; clear hW; go_simp }
      have r7 : w9.cell? ⟨w.heap.size + 1, 7, none⟩ = some (.slice av q cv) := by { rw [← hW]; clear hW; go_simp }
      have hb9 : Below w.heap.size w w9 := by { rw [← hW]; have := HBW.out; (repeat' (first | (with_reducible exact Below.refl _ _) | (with_reducible assumption) | (with_reducible refine Below.drewN ?_ _) | (with_reducible refine Below.alloc ?_ ?_ _) | (with_reducible refine Below.drew ?_) | (with_reducible refine Below.setCell ?_ ?_ _) | (with_reducible refine Below.step (by assumption) ?_ ?_) | (with_reducible exact And.left (by assumption)) | go_size)) }
      have ho9 : w9.ownsRow (BO + 1) 127 3 (.slice av q cv) q (ecells e3 (clO sl ol win)) := by { rw [← hW]; have := HO.out; (repeat' (first | (with_reducible assumption) | ((with_reducible refine owns_lit ?_ ?_ ?_ ?_) <;> first | (simp; done) | (simp; omega) | omega) | (with_reducible refine World.ownsRow.alloc ?_ _) | (with_reducible refine World.ownsRow.drew ?_) | (with_reducible refine owns_drewN ?_ _) | (with_reducible refine ownsRow_setCell_below ?_ ?_ _) | (simp; done) | (simp; omega) | omega)) }
      clear hW
      exact bodyPost_ret (v := .agg #[.string snm, .int .i64 sper, .int .i64 sleast, .int .i64 sa, .int .i64 sb, .int .i64 sc, .int .i64 sd, .slice av q cv]) (by simp [results, Tryz.results40, go_sem, r0, r1, r2, r3, r4, r5, r6, r7]) rfl ⟨av, q, cv, rfl, hb9, ER.of_owns (by have := ho9.1; rw [ecells_len e3_len] at this; omega) ho9⟩
set_option maxHeartbeats 1000000 in
set_option maxRecDepth 100000 in
theorem sameSeries_same (s : Ser) (ap bp : Option Addr) (n cp dp : Nat) (w : World) (hl : T3R w ap n s.l) (hm : T3R w bp n s.l) :
    Calls Tryz.prog 37 #[.agg #[.string s.nm, .int .i64 s.per, .int .i64 s.least, .int .i64 s.a, .int .i64 s.b, .int .i64 s.c, .int .i64 s.d, .slice ap n cp], .agg #[.string s.nm, .int .i64 s.per, .int .i64 s.least, .int .i64 s.a, .int .i64 s.b, .int .i64 s.c, .int .i64 s.d, .slice bp n dp]] w fun e' w' => e' = .returned (.bool true) ∧ Below w.heap.size w w' := by
  have hn := hl.small
  have HL := Lib.hid hl
  have HM := Lib.hid hm
  clear hl hm
  have hnn : ((n : Int) != (n : Int)) = false := by simp
  obtain ⟨snm, sper, sleast, sa, sb, sc, sd, sl⟩ := s
  simp only at *
  go_enter Tryz.func37, Tryz.ntmps37
  go_wp2_with fail
  generalize hW : World.alloc _ _ = w4
  have hb4 : Below w.heap.size w w4 := by rw [← hW]; (repeat' (first | (with_reducible exact Below.refl _ _) | (with_reducible assumption) | (with_reducible refine Below.drewN ?_ _) | (with_reducible refine Below.alloc ?_ ?_ _) | (with_reducible refine Below.drew ?_) | (with_reducible refine Below.setCell ?_ ?_ _) | (with_reducible refine Below.step (by assumption) ?_ ?_) | (with_reducible exact And.left (by assumption)) | go_size))
  have x7 : w4.cell? ⟨w.heap.size, 7, none⟩ = some (.slice ap n cp) := by { rw [← hW]; clear hW; go_simp }
  have y7 : w4.cell? ⟨w.heap.size + 1, 7, none⟩ = some (.slice bp n dp) := by { rw [← hW]; clear hW; go_simp }
  have l1 : w.heap.size + 1 < w4.heap.size := by { rw [← hW]; clear hW; simp }
  have l0 : w.heap.size < w4.heap.size := by omega
  have HB := Lib.hid hb4
  clear hW hb4
  go_loopw [5] (fun i wr => ∃ k : Nat, i = .int .i64 (k : Int) ∧ k ≤ n ∧ ∃ t, wr = w4.drewN t) (fun i _ => n - (intOf i).toNat)
  case atStart => exact ⟨0, rfl, Nat.zero_le _, 0, rfl⟩
  case round =>
    obtain ⟨k, rfl, hk, t, rfl⟩ := hrel
    have i0 : (0 : Int) ≤ (k : Int) := by omega
    by_cases hlt : k < n
    · have i1 : (k : Int) < (n : Int) := by omega
      obtain ⟨b1, o1, rfl, hb1, hc1⟩ := (HL.out.below HB.out).addr (by omega)
      obtain ⟨b2, o2, rfl, hb2, hc2⟩ := (HM.out.below HB.out).addr (by omega)
      obtain ⟨⟨x1, x2, x3⟩, hx⟩ := ER.get HL.out hlt
      obtain ⟨p0, p1, p2⟩ := hc1 k _ hx
      obtain ⟨s0, s1, s2⟩ := hc2 k _ hx
      simp only at p0 p1 p2 s0 s1 s2
      clear hx hc1 hc2
      go_wp2_with fail
      go_quiet (fail)
      go_wp2
      go_roundw
      case rel => exact ⟨k + 1, by go_num, by omega, _, by first | rfl | exact World.drewN_drewN _ _ _ | simp [World.drewN_drewN]⟩
      case measure => simp [intOf]; omega
    · obtain rfl : k = n := by omega
      go_wp2
      go_ret
      exact ⟨rfl, HB.out.drewN _⟩
end Go.Proofs.YthkekjgdknnaiaaGreat
