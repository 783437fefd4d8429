import Derived.Deep.CutRange
import Derived.Test.YtdklmcicogmeaaaGreatMDAnsP
import Derived.Test.YtdklmcicogmeaaaGreatMDLit
import Derived.Test.YtdklmcicogmeaaaGreatMQTail
/- Calibrations and series: the program's functions. -/
namespace Go.Proofs.YtdklmcicogmeaaaGreat
open Go.RowKit
set_option linter.unusedVariables false

theorem calE_first (a b c d : Int) (x : Int) (hx : isLow a b = true → isLow c d = true → isPo a b 1000000000 = true → isPo c d 1000000000 = true → x = unl (decide (a * d ≤ c * b)) 9) :
    firstErr [unl (isLow a b && isLow c d) 3, unl (isPo a b 1000000000 && isPo c d 1000000000) 2, x] = calE a b c d := by
  unfold calE
  by_cases h1 : (isLow a b && isLow c d) = true
  · rw [if_pos h1, h1]
    by_cases h2 : (isPo a b 1000000000 && isPo c d 1000000000) = true
    · rw [if_pos h2, h2]
      rw [Bool.and_eq_true] at h1 h2
      rw [hx h1.1 h1.2 h2.1 h2.2]
      by_cases h3 : a * d ≤ c * b
      · rw [if_pos h3, decide_eq_true h3]; rfl
      · rw [if_neg h3, decide_eq_false h3]; rfl
    · rw [if_neg h2, Bool.not_eq_true _ |>.mp h2]; rfl
  · rw [if_neg h1, Bool.not_eq_true _ |>.mp h1]; rfl
set_option maxHeartbeats 1000000 in
set_option maxRecDepth 100000 in
theorem calibrationErr_any (a b c d : Int) (w : World) (ha : -9223372036854775808 ≤ a ∧ a ≤ 9223372036854775807) (hb : b ≤ 9223372036854775807) (hc : -9223372036854775808 ≤ c ∧ c ≤ 9223372036854775807) (hd : d ≤ 9223372036854775807) :
    Calls Tryz.prog 70 #[.agg #[.int .i64 a, .int .i64 b, .int .i64 c, .int .i64 d]] w fun e' w' => e' = .returned (.int .i64 (calE a b c d)) ∧ Below w.heap.size w w' := by
  have HL1 := Lib.hid (fun w' => d_isLowest_any a b w' ha.1 ha.2 hb)
  have HL2 := Lib.hid (fun w' => d_isLowest_any c d w' hc.1 hc.2 hd)
  have HP1 := Lib.hid (fun w' => d_isPositive_any a b 1000000000 w')
  have HP2 := Lib.hid (fun w' => d_isPositive_any c d 1000000000 w')
  have HU := Lib.hid (fun (b : Bool) (e : Int) w' => d_unless_any b e w')
  have HX := Lib.hid (calE_first a b c d (unl (decide (wrap64 (a * d) ≤ wrap64 (c * b))) 9) (fun _ _ h3 h4 => by
    simp only [isPo, Bool.and_eq_true, wi_iff] at h3 h4
    have m1 := Int.mul_le_mul h3.1.2 h4.2.2 (by omega) (by omega)
    have m2 := Int.mul_le_mul h4.1.2 h3.2.2 (by omega) (by omega)
    have m3 := Int.mul_nonneg (show 0 ≤ a by omega) (show 0 ≤ d by omega)
    have m4 := Int.mul_nonneg (show 0 ≤ c by omega) (show 0 ≤ b by omega)
    rw [show wrap64 (a * d) = a * d by unfold wrap64; omega, show wrap64 (c * b) = c * b by unfold wrap64; omega]))
  generalize isLow a b = l1 at *
  generalize isLow c d = l2 at *
  generalize isPo a b 1000000000 = p1 at *
  generalize isPo c d 1000000000 = p2 at *
  generalize calE a b c d = R at *
  clear ha hb hc hd
  cases l1 <;> cases p1
  all_goals
    go_enter Tryz.func70, Tryz.ntmps70
    go_wp2_with fail
    refine later_of_eq 34 (by kernel_rfl) (by kernel_rfl) ?_; simp only [List.take_succ_cons, List.take_zero, List.drop_succ_cons, List.drop_zero]; repeat go_big_quiet_step (first | (with_reducible exact calls_later (HL1.out _)) | (with_reducible exact calls_later (HL2.out _)) | (with_reducible exact calls_later (HP1.out _)) | (with_reducible exact calls_later (HP2.out _)) | (with_reducible exact calls_later_same (HU.out _ _ _)))
    refine wpQuiet_nil ?_; intro w5 hb5
    have HB5 := Lib.hid (show Below w.heap.size w w5 by (repeat' (first | (with_reducible exact Below.refl _ _) | (with_reducible assumption) | (with_reducible refine Below.drewN ?_ _) | (with_reducible refine Below.alloc ?_ ?_ _) | (with_reducible refine Below.drew ?_) | (with_reducible refine Below.setCell ?_ ?_ _) | (with_reducible refine Below.step (by assumption) ?_ ?_) | (with_reducible exact And.left (by assumption)) | go_size)))
    clear hb5
    go_wp2_with fail
    refine (d_first3 _ _ _ _ _ _ _ (by rfl) (by simp)).mono ?_
    rintro e8 w8 ⟨rfl, hw8⟩
    have HB8 := Lib.hid (show Below w.heap.size w w8 from HB5.out.trans ((show Below w5.heap.size w5 w8 by rw [← hw8]; (repeat' (first | (with_reducible exact Below.refl _ _) | (with_reducible assumption) | (with_reducible refine Below.drewN ?_ _) | (with_reducible refine Below.alloc ?_ ?_ _) | (with_reducible refine Below.drew ?_) | (with_reducible refine Below.setCell ?_ ?_ _) | (with_reducible refine Below.step (by assumption) ?_ ?_) | (with_reducible exact And.left (by assumption)) | go_size))).mono HB5.out.size))
    clear hw8
    go_wp2
    go_ret
    exact ⟨ret_int (by rw [← HX.out]; simp), HB8.out⟩
/-- What comes in fits the machine's words. -/
def SerW (s : Ser) : Prop := s.nm.size ≤ maxLen ∧ (-9223372036854775808 ≤ s.a ∧ s.a ≤ 9223372036854775807) ∧ s.b ≤ 9223372036854775807 ∧ (-9223372036854775808 ≤ s.c ∧ s.c ≤ 9223372036854775807) ∧ s.d ≤ 9223372036854775807
theorem pAt_get {l : List T3} {k : Nat} {p : T3} (h : l[k]? = some p) : pAt l k = p := by
  unfold pAt; rw [List.getD_eq_getElem?_getD, h]; rfl
theorem d_first4' (e1 e2 e3 e4 : Int) (w0 w : World) (t B : Nat) (hw : w.heap = (w0.alloc (.cells #[.int .i64 e1, .int .i64 e2, .int .i64 e3, .int .i64 e4] t)).heap) (hB : B = w0.heap.size) :
    Calls Tryz.prog 66 #[.slice (some ⟨B, 0, none⟩) 4 4] w fun e' w' => e' = .returned (.int .i64 (firstErr [e1, e2, e3, e4])) ∧ w = w' := d_first4 e1 e2 e3 e4 w0 w t B hw hB
set_option maxHeartbeats 2000000 in
set_option maxRecDepth 100000 in
theorem checkSeries_any (s : Ser) (ap : Option Addr) (n cp : Nat) (w : World) (hw : SerW s) (hl : T3R w ap n s.l) :
    Calls Tryz.prog 23 #[.agg #[.string s.nm, .int .i64 s.per, .int .i64 s.least, .int .i64 s.a, .int .i64 s.b, .int .i64 s.c, .int .i64 s.d, .slice ap n cp]] w
      fun e' w' => e' = .returned (.tuple #[.int .i64 (serE s).1, .int .i64 (serE s).2]) ∧ Below w.heap.size w w' := by
  have hn := hl.small
  have HL := Lib.hid hl
  have HLN := Lib.hid hl.len
  have HN := Lib.hid (fun w' => d_isName_any s.nm w' hw.1)
  have HW1 := Lib.hid (fun w' => d_within_any s.per 1 1000000 w')
  have HW2 := Lib.hid (fun w' => d_within_any s.least 1 60 w')
  have HC := Lib.hid (fun w' => calibrationErr_any s.a s.b s.c s.d w' hw.2.1 hw.2.2.1 hw.2.2.2.1 hw.2.2.2.2)
  have HU := Lib.hid (fun (b : Bool) (e : Int) w' => d_unless_any b e w')
  have hser : serE s = if headE s ≠ 0 then (0, headE s) else firstAt (pulE s.l) n 0 := by unfold serE; rw [hl.len]
  have hhd : headE s = firstErr [unl (nameOk s.nm) 4, unl (wi s.per 1 1000000 && wi s.least 1 60) 2, calE s.a s.b s.c s.d, unl (decide ((n : Int) ≤ 60)) 8] := by unfold headE; rw [hl.len]
  rw [hser]
  obtain ⟨H, hH⟩ : ∃ H, H = headE s := ⟨_, rfl⟩
  rw [← hH] at hhd ⊢
  generalize nameOk s.nm = b1 at *
  generalize wi s.per 1 1000000 = b2 at *
  generalize wi s.least 1 60 = b3 at *
  generalize calE s.a s.b s.c s.d = e3 at *
  obtain ⟨nm, per, least, a, b, c, d, l⟩ := s
  simp only at *
  have HH := Lib.hid hhd
  clear hl hw hser hhd hH
  by_cases h0 : H ≠ 0
  · rw [if_pos h0]
    have h0' : (H != 0) = true := by simpa using h0
    clear h0
    cases b2
    all_goals
      go_enter Tryz.func23, Tryz.ntmps23
      go_wp2_with fail
      refine later_of_eq 21 (by kernel_rfl) (by kernel_rfl) ?_; simp only [List.take_succ_cons, List.take_zero, List.drop_succ_cons, List.drop_zero]; repeat go_big_quiet_step (first | (with_reducible exact calls_later (HN.out _)) | (with_reducible exact calls_later_same (HW1.out _)) | (with_reducible exact calls_later_same (HW2.out _)) | (with_reducible exact calls_later (HC.out _)) | (with_reducible exact calls_later_same (HU.out _ _ _)))
      refine wpQuiet_nil ?_; intro w5 hb5
      have hz5 := hb5.size
      simp only [World.size_alloc] at hz5
      have q7 : w5.cell? ⟨w.heap.size, 7, none⟩ = some (.slice ap n cp) := by { rw [cellB hb5 _ _ (by first | (simp; done) | (simp; omega) | omega)]; all_goals (first | assumption | go_simp) }; have l0 : w.heap.size < w5.heap.size := by { omega }
      have HB5 := Lib.hid (show Below w.heap.size w w5 by (repeat' (first | (with_reducible exact Below.refl _ _) | (with_reducible assumption) | (with_reducible refine Below.drewN ?_ _) | (with_reducible refine Below.alloc ?_ ?_ _) | (with_reducible refine Below.drew ?_) | (with_reducible refine Below.setCell ?_ ?_ _) | (with_reducible refine Below.step (by assumption) ?_ ?_) | (with_reducible exact And.left (by assumption)) | go_size)))
      clear hb5
      go_wp2_with fail
      refine (d_first4 _ _ _ _ _ _ _ _ (by rfl) (by simp)).mono ?_
      rintro e8 w8 ⟨rfl, hw8⟩
      have hb8 : Below w5.heap.size w5 w8 := by rw [← hw8]; (repeat' (first | (with_reducible exact Below.refl _ _) | (with_reducible assumption) | (with_reducible refine Below.drewN ?_ _) | (with_reducible refine Below.alloc ?_ ?_ _) | (with_reducible refine Below.drew ?_) | (with_reducible refine Below.setCell ?_ ?_ _) | (with_reducible refine Below.step (by assumption) ?_ ?_) | (with_reducible exact And.left (by assumption)) | go_size))
      have hz8 := hb8.size
      have q7d : w8.cell? ⟨w.heap.size, 7, none⟩ = some (.slice ap n cp) := by { rw [cellB hb8 _ _ (by first | (simp; done) | (simp; omega) | omega)]; all_goals (first | assumption | go_simp) }; have l0d : w.heap.size < w8.heap.size := by { omega }
      have HB8 := Lib.hid (HB5.out.trans (hb8.mono HB5.out.size))
      clear hw8 hb8 q7 l0 HB5 HN HW1 HW2 HC
      try rw [Bool.true_and] at HH
      try rw [Bool.false_and] at HH
      rw [← HH.out]
      go_wp2
      go_ret2
      exact ⟨rfl, HB8.out⟩
  · have h1 : H = 0 := Decidable.not_not.1 h0
    rw [if_neg h0]
    subst h1
    clear h0
    obtain rfl : b2 = true := by
      cases b2
      · have := HH.out
        have h2 := firstErr_cons.1 (firstErr_cons.1 this.symm).2
        simp [unl] at h2
      · rfl
    go_enter Tryz.func23, Tryz.ntmps23
    go_wp2_with fail
    refine later_of_eq 21 (by kernel_rfl) (by kernel_rfl) ?_; simp only [List.take_succ_cons, List.take_zero, List.drop_succ_cons, List.drop_zero]; repeat go_big_quiet_step (first | (with_reducible exact calls_later (HN.out _)) | (with_reducible exact calls_later_same (HW1.out _)) | (with_reducible exact calls_later_same (HW2.out _)) | (with_reducible exact calls_later (HC.out _)) | (with_reducible exact calls_later_same (HU.out _ _ _)))
    refine wpQuiet_nil ?_; intro w5 hb5
    have hz5 := hb5.size
    simp only [World.size_alloc] at hz5
    have q7 : w5.cell? ⟨w.heap.size, 7, none⟩ = some (.slice ap n cp) := by { rw [cellB hb5 _ _ (by first | (simp; done) | (simp; omega) | omega)]; all_goals (first | assumption | go_simp) }; have l0 : w.heap.size < w5.heap.size := by { omega }
    have HB5 := Lib.hid (show Below w.heap.size w w5 by (repeat' (first | (with_reducible exact Below.refl _ _) | (with_reducible assumption) | (with_reducible refine Below.drewN ?_ _) | (with_reducible refine Below.alloc ?_ ?_ _) | (with_reducible refine Below.drew ?_) | (with_reducible refine Below.setCell ?_ ?_ _) | (with_reducible refine Below.step (by assumption) ?_ ?_) | (with_reducible exact And.left (by assumption)) | go_size)))
    clear hb5
    go_wp2_with fail
    refine (d_first4 _ _ _ _ _ _ _ _ (by rfl) (by simp)).mono ?_
    rintro e8 w8 ⟨rfl, hw8⟩
    have hb8 : Below w5.heap.size w5 w8 := by rw [← hw8]; (repeat' (first | (with_reducible exact Below.refl _ _) | (with_reducible assumption) | (with_reducible refine Below.drewN ?_ _) | (with_reducible refine Below.alloc ?_ ?_ _) | (with_reducible refine Below.drew ?_) | (with_reducible refine Below.setCell ?_ ?_ _) | (with_reducible refine Below.step (by assumption) ?_ ?_) | (with_reducible exact And.left (by assumption)) | go_size))
    have hz8 := hb8.size
    have q7d : w8.cell? ⟨w.heap.size, 7, none⟩ = some (.slice ap n cp) := by { rw [cellB hb8 _ _ (by first | (simp; done) | (simp; omega) | omega)]; all_goals (first | assumption | go_simp) }; have l0d : w.heap.size < w8.heap.size := by { omega }
    have HB8 := Lib.hid (HB5.out.trans (hb8.mono HB5.out.size))
    clear hw8 hb8 q7 l0 HB5 HN HW1 HW2 HC
    rw [Bool.true_and] at HH
    rw [← HH.out]
    clear HH
    go_wp2_with fail
    go_loopw [38] (fun i wr => ∃ k : Nat, i = .int .i64 k ∧ k ≤ n ∧ Hid (firstAt (pulE l) (n - k) k = firstAt (pulE l) n 0) ∧ Hid (Below w8.heap.size w8 wr)) (fun i _ => n - (intOf i).toNat)
    case atStart => exact ⟨0, rfl, Nat.zero_le _, Lib.hid rfl, Lib.hid (Below.refl _ _)⟩
    case round =>
      obtain ⟨k, rfl, hk, hF, hB⟩ := hrel
      have i0 : (0 : Int) ≤ (k : Int) := by omega
      by_cases hlt : k < n
      · have hbw := HB8.out.trans (hB.out.mono HB8.out.size)
        have HBW := Lib.hid hbw
        obtain ⟨b0, o0, rfl, hb0, hcs⟩ := (HL.out.below hbw).addr (by omega)
        obtain ⟨⟨x, y, z⟩, hx⟩ := ER.get HL.out hlt
        obtain ⟨c0, c1, c2⟩ := hcs k _ hx
        have q7 : wr.cell? ⟨w.heap.size, 7, none⟩ = some (.slice (some ⟨b0, o0, none⟩) n cp) := by rw [cellB hB.out _ _ l0d]; exact q7d
        have lw : w.heap.size < wr.heap.size := by have := hB.out.size; omega
        have hF' := hF.out
        rw [firstAt_step hlt] at hF'
        obtain ⟨E, hEE⟩ : ∃ E, E = pulE l k := ⟨_, rfl⟩
        rw [← hEE] at hF'
        have HF := Lib.hid hF'
        have hA := pAt_get hx
        have hE2 : E = firstErr [unl (pulR ⟨x, y, z⟩) 2, unl (y != 0) 11, unl (decide (k = 0) || decide ((pAt l (k - 1)).x < x)) 9] := by rw [hEE]; unfold pulE; rw [hA]
        have HV1 := Lib.hid (fun w' => d_within_any x 0 1000000000000 w')
        have HV2 := Lib.hid (fun w' => d_isSized_any y 4096 w' (by omega) (by omega))
        have HV3 := Lib.hid (fun w' => d_within_any z 1 100 w')
        have i1 : (k : Int) < (n : Int) := by omega
        have hpr : ∃ v : Int, (pAt l (k - 1)).x = v ∧ (k ≠ 0 → wr.cell? ⟨b0, o0 + (k - 1) * 3, none⟩ = some (.int .i64 v)) := by
          refine ⟨_, rfl, fun hk0 => ?_⟩
          obtain ⟨p', hp'⟩ := ER.get HL.out (show k - 1 < n by omega)
          have := (hcs (k - 1) _ hp').1
          rw [pAt_get hp']; exact this
        obtain ⟨v, hv, hvc⟩ := hpr
        rw [hv] at hE2
        obtain ⟨pr, hpr⟩ : ∃ b, b = pulR ⟨x, y, z⟩ := ⟨_, rfl⟩
        rw [← hpr] at hE2
        have HE := Lib.hid hE2
        have HR := Lib.hid (hpr.trans (show pulR ⟨x, y, z⟩ = ((wi x 0 1000000000000 && wi y (-4096) 4096) && wi z 1 100) from rfl))
        clear hpr
        clear hF' hF hx hA hE2 hEE hcs hbw hv
        go_upto_region 7 with (fail)
        generalize hW : World.alloc _ _ = wd
        have hbd : Below wr.heap.size wr wd := by rw [← hW]; (repeat' (first | (with_reducible exact Below.refl _ _) | (with_reducible assumption) | (with_reducible refine Below.drewN ?_ _) | (with_reducible refine Below.alloc ?_ ?_ _) | (with_reducible refine Below.drew ?_) | (with_reducible refine Below.setCell ?_ ?_ _) | (with_reducible refine Below.step (by assumption) ?_ ?_) | (with_reducible exact And.left (by assumption)) | go_size))
        have y0 : wd.cell? ⟨wr.heap.size, 0, none⟩ = some (.int .i64 x) := by { rw [← hW]; clear hW; go_simp }
        have y1 : wd.cell? ⟨wr.heap.size, 1, none⟩ = some (.int .i64 y) := by { rw [← hW]; clear hW; go_simp }
        have y2 : wd.cell? ⟨wr.heap.size, 2, none⟩ = some (.int .i64 z) := by { rw [← hW]; clear hW; go_simp }
        have ly : wr.heap.size < wd.heap.size := by { rw [← hW]; clear hW; simp }
        have q7e : wd.cell? ⟨w.heap.size, 7, none⟩ = some (.slice (some ⟨b0, o0, none⟩) n cp) := by rw [cellB hbd _ _ lw]; exact q7
        have hve : k ≠ 0 → wd.cell? ⟨b0, o0 + (k - 1) * 3, none⟩ = some (.int .i64 v) := fun h => by rw [cellB hbd _ _ hb0]; exact hvc h
        have HBD := Lib.hid (HBW.out.trans (hbd.mono HBW.out.size))
        have HB9 := Lib.hid (hB.out.trans (hbd.mono hB.out.size))
        have hb0d : b0 < wd.heap.size := by omega
        have hwd : w.heap.size < wd.heap.size := by omega
        have HVE := Lib.hid hve
        clear hW hbd hB q7 c0 c1 c2 lw hvc hb0 hve
        go_cut [7] from 43 to 55 (fun v7 wx => v7 = .bool pr ∧ wx = wd)
        case first =>
          clear HVE HE HF HB9 HBD HBW HL HLN
          generalize wi x 0 1000000000000 = g1 at *
          generalize wi y (-4096) 4096 = g2 at *
          generalize wi z 1 100 = g3 at *
          cases g1 <;> cases g2
          all_goals
            go_wp2_with (first | (go_at_call 69; (with_reducible refine (HV1.out _).mono ?_); rintro e w' ⟨rfl, rfl⟩) | (go_at_call 71; (with_reducible refine (HV2.out _).mono ?_); rintro e w' ⟨rfl, rfl⟩) | (go_at_call 69; (with_reducible refine (HV3.out _).mono ?_); rintro e w' ⟨rfl, rfl⟩))
            go_meet
            rw [HR.out]
            simp
        case rest =>
          obtain ⟨rfl, he⟩ := hcut
          obtain rfl := he.symm
          clear HV1 HV2 HV3 HR
          by_cases hk0 : k = 0
          · subst hk0
            have hkb : (((0 : Nat) : Int) == 0) = true := rfl
            clear HVE
            go_wp2_with fail
            refine later_of_eq 22 (by kernel_rfl) (by kernel_rfl) ?_; simp only [List.take_succ_cons, List.take_zero, List.drop_succ_cons, List.drop_zero]; repeat go_big_quiet_step (with_reducible exact calls_later_same (HU.out _ _ _))
            refine wpQuiet_nil ?_; intro w6 hb6
            have HB6 := Lib.hid (HBD.out.trans (Below.mono (show Below wd.heap.size wd w6 by (repeat' (first | (with_reducible exact Below.refl _ _) | (with_reducible assumption) | (with_reducible refine Below.drewN ?_ _) | (with_reducible refine Below.alloc ?_ ?_ _) | (with_reducible refine Below.drew ?_) | (with_reducible refine Below.setCell ?_ ?_ _) | (with_reducible refine Below.step (by assumption) ?_ ?_) | (with_reducible exact And.left (by assumption)) | go_size))) HBD.out.size))
            have HB7 := Lib.hid (HB9.out.trans (Below.mono (show Below wd.heap.size wd w6 by (repeat' (first | (with_reducible exact Below.refl _ _) | (with_reducible assumption) | (with_reducible refine Below.drewN ?_ _) | (with_reducible refine Below.alloc ?_ ?_ _) | (with_reducible refine Below.drew ?_) | (with_reducible refine Below.setCell ?_ ?_ _) | (with_reducible refine Below.step (by assumption) ?_ ?_) | (with_reducible exact And.left (by assumption)) | go_size))) HB9.out.size))
            clear hb6
            go_wp2_with fail
            refine (d_first3 _ _ _ _ _ _ _ (by rfl) (by simp)).mono ?_
            rintro e10 w10 ⟨rfl, hw10⟩
            have hb10 : Below w6.heap.size w6 w10 := by rw [← hw10]; (repeat' (first | (with_reducible exact Below.refl _ _) | (with_reducible assumption) | (with_reducible refine Below.drewN ?_ _) | (with_reducible refine Below.alloc ?_ ?_ _) | (with_reducible refine Below.drew ?_) | (with_reducible refine Below.setCell ?_ ?_ _) | (with_reducible refine Below.step (by assumption) ?_ ?_) | (with_reducible exact And.left (by assumption)) | go_size))
            have HB10 := Lib.hid (HB6.out.trans (hb10.mono HB6.out.size))
            have HB11 := Lib.hid (HB7.out.trans (hb10.mono HB7.out.size))
            clear hw10 hb10 HB6 HB7
            have HEE := Lib.hid (show E = firstErr [unl pr 2, unl (y != 0) 11, unl true 9] from by rw [HE.out]; simp)
            rw [← HEE.out]
            by_cases hE0 : E ≠ 0
            · rw [if_pos hE0] at HF
              have hE1 : (E != 0) = true := by simpa using hE0
              clear hE0 HE HEE
              go_wp2
              go_ret2
              exact ⟨by rw [← HF.out]; rfl, HB10.out⟩
            · rw [if_neg hE0] at HF
              have hE1 : (E != 0) = false := by simpa using hE0
              clear hE0 HE HEE
              go_wp2
              go_roundw
              case rel => exact ⟨1, by go_num, by omega, HF, HB11⟩
              case measure => simp [intOf]; omega
          · have hkb : ((k : Int) == 0) = false := by simp; omega
            have hc' := HVE.out hk0
            have w1 : IntKind.i64.wrap ((k : Int) - 1) = (k : Int) - 1 := by rw [IntKind.wrap_i64]; omega
            have w2 : ((k : Int) - 1).toNat = k - 1 := by omega
            have w3 : ¬ (k : Int) < 1 := by omega
            have w4 : (0 : Int) ≤ (k : Int) - 1 := by omega
            have w5' : (k : Int) - 1 < (n : Int) := by omega
            have w6' : (1 : Int) ≤ (k : Int) := by omega
            clear HVE
            go_wp2_with fail
            refine later_of_eq 22 (by kernel_rfl) (by kernel_rfl) ?_; simp only [List.take_succ_cons, List.take_zero, List.drop_succ_cons, List.drop_zero]; repeat go_big_quiet_step (with_reducible exact calls_later_same (HU.out _ _ _))
            refine wpQuiet_nil ?_; intro w6 hb6
            have HB6 := Lib.hid (HBD.out.trans (Below.mono (show Below wd.heap.size wd w6 by (repeat' (first | (with_reducible exact Below.refl _ _) | (with_reducible assumption) | (with_reducible refine Below.drewN ?_ _) | (with_reducible refine Below.alloc ?_ ?_ _) | (with_reducible refine Below.drew ?_) | (with_reducible refine Below.setCell ?_ ?_ _) | (with_reducible refine Below.step (by assumption) ?_ ?_) | (with_reducible exact And.left (by assumption)) | go_size))) HBD.out.size))
            have HB7 := Lib.hid (HB9.out.trans (Below.mono (show Below wd.heap.size wd w6 by (repeat' (first | (with_reducible exact Below.refl _ _) | (with_reducible assumption) | (with_reducible refine Below.drewN ?_ _) | (with_reducible refine Below.alloc ?_ ?_ _) | (with_reducible refine Below.drew ?_) | (with_reducible refine Below.setCell ?_ ?_ _) | (with_reducible refine Below.step (by assumption) ?_ ?_) | (with_reducible exact And.left (by assumption)) | go_size))) HB9.out.size))
            clear hb6 w1 w2 w3 w4 w5' w6'
            go_wp2_with fail
            refine (d_first3 _ _ _ _ _ _ _ (by rfl) (by simp)).mono ?_
            rintro e10 w10 ⟨rfl, hw10⟩
            have hb10 : Below w6.heap.size w6 w10 := by rw [← hw10]; (repeat' (first | (with_reducible exact Below.refl _ _) | (with_reducible assumption) | (with_reducible refine Below.drewN ?_ _) | (with_reducible refine Below.alloc ?_ ?_ _) | (with_reducible refine Below.drew ?_) | (with_reducible refine Below.setCell ?_ ?_ _) | (with_reducible refine Below.step (by assumption) ?_ ?_) | (with_reducible exact And.left (by assumption)) | go_size))
            have HB10 := Lib.hid (HB6.out.trans (hb10.mono HB6.out.size))
            have HB11 := Lib.hid (HB7.out.trans (hb10.mono HB7.out.size))
            clear hw10 hb10 HB6 HB7
            have HEE := Lib.hid (show E = firstErr [unl pr 2, unl (y != 0) 11, unl (decide (v < x)) 9] from by rw [HE.out]; simp [hk0])
            rw [← HEE.out]
            by_cases hE0 : E ≠ 0
            · rw [if_pos hE0] at HF
              have hE1 : (E != 0) = true := by simpa using hE0
              clear hE0 HE HEE
              go_wp2
              go_ret2
              exact ⟨by rw [← HF.out]; rfl, HB10.out⟩
            · rw [if_neg hE0] at HF
              have hE1 : (E != 0) = false := by simpa using hE0
              clear hE0 HE HEE
              go_wp2
              go_roundw
              case rel => exact ⟨k + 1, by go_num, by omega, HF, HB11⟩
              case measure => simp [intOf]; omega
      · have HF := Lib.hid (hF.out.symm.trans (firstAt_end (by omega)))
        have HBW := Lib.hid (HB8.out.trans (hB.out.mono HB8.out.size))
        clear hF
        go_wp2
        go_ret2
        exact ⟨by rw [HF.out]; rfl, HBW.out⟩
end Go.Proofs.YtdklmcicogmeaaaGreat
