import Derived.Test.YtdklmcicogmeaaaGreatMDLevO
import Derived.Test.YtdklmcicogmeaaaGreatSchedZ
/- The charge of a series: the program's function. -/
namespace Go.Proofs.YtdklmcicogmeaaaGreat
open Go.RowKit
set_option linter.unusedVariables false

/-- The charge: its range, the error. -/
def chgE (s : Ser) : (Int × Int) × Int := if (levE s).2 ≠ 0 then ((0, 0), (levE s).2) else ((((levE s).1 * s.a).tdiv s.b, ((levE s).1 * s.c + s.d - 1).tdiv s.d), 0)
theorem levE_zero {s : Ser} (h : (levE s).2 = 0) : lvErr s = 0 ∧ levE s = (lvlOf (lvAmp s.l) s.least.toNat, 0) := by
  unfold levE at h ⊢
  by_cases h0 : lvErr s ≠ 0
  · rw [if_pos h0] at h; exact absurd h h0
  · rw [if_neg h0]; exact ⟨Decidable.not_not.1 h0, rfl⟩
theorem lvl_bd {s : Ser} (h : (levE s).2 = 0) : 1 ≤ (levE s).1 ∧ (levE s).1 ≤ 4096 := by
  obtain ⟨h1, h2⟩ := levE_zero h
  rw [h2]
  obtain ⟨h3, h4⟩ := lvErr_zero h1
  have h5 := (headE_zero (serE_zero h3).2.1).2.2.1
  have hm := (lvl_spec (l := lvAmp s.l) (m := s.least.toNat) (by omega) (by unfold lvAmp; rw [List.length_map]; omega)).2.2
  generalize lvlOf (lvAmp s.l) s.least.toNat = v at *
  obtain ⟨p, hp, hv⟩ := List.mem_map.1 hm
  obtain ⟨k, hk, rfl⟩ := List.mem_iff_getElem.1 hp
  have hy := pulE_zero ((serE_zero h3).2.2 k hk)
  rw [pAt_get (List.getElem?_eq_getElem hk)] at hy
  have h6 := hy.2.1
  have h7 := hy.2.2.2.1
  have h8 : v = max s.l[k].y (-s.l[k].y) := hv.symm
  show 1 ≤ v ∧ v ≤ 4096
  omega
set_option maxHeartbeats 2000000 in
set_option maxRecDepth 100000 in
theorem chargeOf_any (s : Ser) (ap : Option Addr) (n cp : Nat) (w : World) (hw : SerW s) (hl : T3R w ap n s.l) :
    Calls Tryz.prog 32 #[.agg #[.string s.nm, .int .i64 s.per, .int .i64 s.least, .int .i64 s.a, .int .i64 s.b, .int .i64 s.c, .int .i64 s.d, .slice ap n cp]] w
      fun e' w' => e' = .returned (.tuple #[.agg #[.int .i64 (chgE s).1.1, .int .i64 (chgE s).1.2], .int .i64 (chgE s).2]) ∧ Below w.heap.size w w' := by
  have HO := Lib.hid (fun (w' : World) (hb : Below w.heap.size w w') => levelOf_any s ap n cp w' hw (hl.below hb))
  have HL := Lib.hid hl
  have HC := Lib.hid (fun h => And.intro (lvl_bd (s := s) h) (calE_zero (headE_zero (serE_zero (lvErr_zero (levE_zero h).1).1).2.1).2.2.2.1))
  have HV := Lib.hid (show chgE s = if (levE s).2 ≠ 0 then ((0, 0), (levE s).2) else ((((levE s).1 * s.a).tdiv s.b, ((levE s).1 * s.c + s.d - 1).tdiv s.d), 0) by rfl)
  generalize chgE s = V at *
  generalize levE s = E at *
  obtain ⟨nm, per, least, a, b, c, d, l⟩ := s
  obtain ⟨lv, e⟩ := E
  simp only at HO HL HC HV ⊢
  clear hl hw
  go_enter Tryz.func32, Tryz.ntmps32
  go_wp2_with fail
  refine (HO.out _ (by (repeat' (first | (with_reducible exact Below.refl _ _) | (with_reducible assumption) | (with_reducible refine Below.drewN ?_ _) | (with_reducible refine Below.alloc ?_ ?_ _) | (with_reducible refine Below.drew ?_) | (with_reducible refine Below.setCell ?_ ?_ _) | (with_reducible refine Below.step (by assumption) ?_ ?_) | (with_reducible exact And.left (by assumption)) | go_size)))).mono ?_
  rintro e5 w5 ⟨rfl, hb5⟩
  have q3 : w5.cell? ⟨w.heap.size, 3, none⟩ = some (.int .i64 a) := by { rw [cellB hb5 _ _ (by first | (simp; done) | (simp; omega) | omega)]; all_goals (first | assumption | go_simp) }; have q4 : w5.cell? ⟨w.heap.size, 4, none⟩ = some (.int .i64 b) := by { rw [cellB hb5 _ _ (by first | (simp; done) | (simp; omega) | omega)]; all_goals (first | assumption | go_simp) }; have q5 : w5.cell? ⟨w.heap.size, 5, none⟩ = some (.int .i64 c) := by { rw [cellB hb5 _ _ (by first | (simp; done) | (simp; omega) | omega)]; all_goals (first | assumption | go_simp) }; have q6 : w5.cell? ⟨w.heap.size, 6, none⟩ = some (.int .i64 d) := by { rw [cellB hb5 _ _ (by first | (simp; done) | (simp; omega) | omega)]; all_goals (first | assumption | go_simp) }; have z0 : w5.cell? ⟨w.heap.size + 1, 0, none⟩ = some (.int .i64 0) := by { rw [cellB hb5 _ _ (by first | (simp; done) | (simp; omega) | omega)]; all_goals (first | assumption | go_simp) }; have z1 : w5.cell? ⟨w.heap.size + 1, 1, none⟩ = some (.int .i64 0) := by { rw [cellB hb5 _ _ (by first | (simp; done) | (simp; omega) | omega)]; all_goals (first | assumption | go_simp) }; have f0 : w5.frozen? ⟨w.heap.size + 1, 0, none⟩ = false := by { rw [frozenB hb5 _ _ (by first | (simp; done) | (simp; omega) | omega)]; all_goals (first | assumption | go_simp) }; have f1 : w5.frozen? ⟨w.heap.size + 1, 1, none⟩ = false := by { rw [frozenB hb5 _ _ (by first | (simp; done) | (simp; omega) | omega)]; all_goals (first | assumption | go_simp) }
  have hz5 := hb5.size
  simp only [World.size_alloc] at hz5
  have l0 : w.heap.size < w5.heap.size := by omega
  have l1 : w.heap.size + 1 < w5.heap.size := by omega
  have HB5 := Lib.hid (show Below w.heap.size w w5 by (repeat' (first | (with_reducible exact Below.refl _ _) | (with_reducible assumption) | (with_reducible refine Below.drewN ?_ _) | (with_reducible refine Below.alloc ?_ ?_ _) | (with_reducible refine Below.drew ?_) | (with_reducible refine Below.setCell ?_ ?_ _) | (with_reducible refine Below.step (by assumption) ?_ ?_) | (with_reducible exact And.left (by assumption)) | go_size)))
  clear hb5 HO
  have hV := HV.out
  by_cases he : e ≠ 0
  · rw [if_pos he] at hV
    have he' : (e != 0) = true := by simpa using he
    subst hV
    clear HC HV
    go_wp2_with fail
    generalize hW : World.setCell _ _ _ = w9
    have r0 : w9.cell? ⟨w.heap.size + 1, 0, none⟩ = some (.int .i64 0) := by { rw [← hW]; clear hW; go_simp }
    have r1 : w9.cell? ⟨w.heap.size + 1, 1, none⟩ = some (.int .i64 0) := by { rw [← hW]; clear hW; go_simp }
    have hb9 : Below w.heap.size w w9 := by { rw [← hW]; have := HB5.out; (repeat' (first | (with_reducible exact Below.refl _ _) | (with_reducible assumption) | (with_reducible refine Below.drewN ?_ _) | (with_reducible refine Below.alloc ?_ ?_ _) | (with_reducible refine Below.drew ?_) | (with_reducible refine Below.setCell ?_ ?_ _) | (with_reducible refine Below.step (by assumption) ?_ ?_) | (with_reducible exact And.left (by assumption)) | go_size)) }
    clear hW
    exact bodyPost_ret (v := .tuple #[.agg #[.int .i64 0, .int .i64 0], .int .i64 e]) (by simp [results, Tryz.results32, go_sem, r0, r1]) rfl ⟨rfl, hb9⟩
  · have he1 : e = 0 := Decidable.not_not.1 he
    rw [if_neg he] at hV
    have hC := HC.out he1
    subst he1
    clear HC HV he
    go_wp2_with fail
    go_cut [6, 7] from 17 to 23 (fun v5 v6 wx => ∃ X5 X6 : Nat, v5 = .pointer (some ⟨X5, 0, none⟩) ∧ v6 = .pointer (some ⟨X6, 0, none⟩) ∧ wx.cell? ⟨X5, 0, none⟩ = some (.int .i64 a) ∧ wx.cell? ⟨X5, 1, none⟩ = some (.int .i64 b) ∧ wx.cell? ⟨X6, 0, none⟩ = some (.int .i64 c) ∧ wx.cell? ⟨X6, 1, none⟩ = some (.int .i64 d) ∧ X5 < wx.heap.size ∧ X6 < wx.heap.size ∧ w5.heap.size ≤ X5 ∧ w5.heap.size ≤ X6 ∧ Hid (Below w5.heap.size w5 wx))
    case first =>
      refine wp_region_laterT (B := w5.heap.size) (.head 0 (.head 1 (.head 2 (.head 3 (.head 4 (.head 5 (.two 6 (.one 7 (.one 8 (.one 9 .done))) 7 (.one 6 (.one 8 (.one 9 .done)))))))))) (by kernel_rfl) (by kernel_rfl) ?_
      repeat (refine tree_head rfl ?_; (show wpQuiet _ _ _ _ (_ :: _) _; go_big_quiet_step (fail)); refine wpQuiet_nil ?_)
      refine tree_two rfl rfl ?_ ?_
      · go_wp2_with fail
        refine tailL_mk (by (repeat' (first | (with_reducible exact Below.refl _ _) | (with_reducible assumption) | (with_reducible refine Below.drewN ?_ _) | (with_reducible refine Below.alloc ?_ ?_ _) | (with_reducible refine Below.drew ?_) | (with_reducible refine Below.setCell ?_ ?_ _) | (with_reducible refine Below.step (by assumption) ?_ ?_) | (with_reducible exact And.left (by assumption)) | go_size))) ?_
        refine tree_one rfl ?_; go_wp2_with fail
        refine tailL_mk (by (repeat' (first | (with_reducible exact Below.refl _ _) | (with_reducible assumption) | (with_reducible refine Below.drewN ?_ _) | (with_reducible refine Below.alloc ?_ ?_ _) | (with_reducible refine Below.drew ?_) | (with_reducible refine Below.setCell ?_ ?_ _) | (with_reducible refine Below.step (by assumption) ?_ ?_) | (with_reducible exact And.left (by assumption)) | go_size))) ?_
        refine tree_one rfl ?_; go_wp2_with fail
        refine tailL_mk (by (repeat' (first | (with_reducible exact Below.refl _ _) | (with_reducible assumption) | (with_reducible refine Below.drewN ?_ _) | (with_reducible refine Below.alloc ?_ ?_ _) | (with_reducible refine Below.drew ?_) | (with_reducible refine Below.setCell ?_ ?_ _) | (with_reducible refine Below.step (by assumption) ?_ ?_) | (with_reducible exact And.left (by assumption)) | go_size))) ?_
        refine tree_one rfl ?_; go_wp2_with fail
        refine tailL_mk (by (repeat' (first | (with_reducible exact Below.refl _ _) | (with_reducible assumption) | (with_reducible refine Below.drewN ?_ _) | (with_reducible refine Below.alloc ?_ ?_ _) | (with_reducible refine Below.drew ?_) | (with_reducible refine Below.setCell ?_ ?_ _) | (with_reducible refine Below.step (by assumption) ?_ ?_) | (with_reducible exact And.left (by assumption)) | go_size))) ?_
        refine tree_done ?_
        go_wp2_with fail
        go_meet
        case rel => exact ⟨_, _, rfl, rfl, by go_simp, by go_simp, by go_simp, by go_simp, by simp; omega, by simp, by omega, by omega, Lib.hid (by (repeat' (first | (with_reducible exact Below.refl _ _) | (with_reducible assumption) | (with_reducible refine Below.drewN ?_ _) | (with_reducible refine Below.alloc ?_ ?_ _) | (with_reducible refine Below.drew ?_) | (with_reducible refine Below.setCell ?_ ?_ _) | (with_reducible refine Below.step (by assumption) ?_ ?_) | (with_reducible exact And.left (by assumption)) | go_size)))⟩
      · go_wp2_with fail
        refine tailL_mk (by (repeat' (first | (with_reducible exact Below.refl _ _) | (with_reducible assumption) | (with_reducible refine Below.drewN ?_ _) | (with_reducible refine Below.alloc ?_ ?_ _) | (with_reducible refine Below.drew ?_) | (with_reducible refine Below.setCell ?_ ?_ _) | (with_reducible refine Below.step (by assumption) ?_ ?_) | (with_reducible exact And.left (by assumption)) | go_size))) ?_
        refine tree_one rfl ?_; go_wp2_with fail
        refine tailL_mk (by (repeat' (first | (with_reducible exact Below.refl _ _) | (with_reducible assumption) | (with_reducible refine Below.drewN ?_ _) | (with_reducible refine Below.alloc ?_ ?_ _) | (with_reducible refine Below.drew ?_) | (with_reducible refine Below.setCell ?_ ?_ _) | (with_reducible refine Below.step (by assumption) ?_ ?_) | (with_reducible exact And.left (by assumption)) | go_size))) ?_
        refine tree_one rfl ?_; go_wp2_with fail
        refine tailL_mk (by (repeat' (first | (with_reducible exact Below.refl _ _) | (with_reducible assumption) | (with_reducible refine Below.drewN ?_ _) | (with_reducible refine Below.alloc ?_ ?_ _) | (with_reducible refine Below.drew ?_) | (with_reducible refine Below.setCell ?_ ?_ _) | (with_reducible refine Below.step (by assumption) ?_ ?_) | (with_reducible exact And.left (by assumption)) | go_size))) ?_
        refine tree_one rfl ?_; go_wp2_with fail
        refine tailL_mk (by (repeat' (first | (with_reducible exact Below.refl _ _) | (with_reducible assumption) | (with_reducible refine Below.drewN ?_ _) | (with_reducible refine Below.alloc ?_ ?_ _) | (with_reducible refine Below.drew ?_) | (with_reducible refine Below.setCell ?_ ?_ _) | (with_reducible refine Below.step (by assumption) ?_ ?_) | (with_reducible exact And.left (by assumption)) | go_size))) ?_
        refine tree_done ?_
        go_wp2_with fail
        go_meet
        case rel => exact ⟨_, _, rfl, rfl, by go_simp, by go_simp, by go_simp, by go_simp, by simp, by simp; omega, by omega, by omega, Lib.hid (by (repeat' (first | (with_reducible exact Below.refl _ _) | (with_reducible assumption) | (with_reducible refine Below.drewN ?_ _) | (with_reducible refine Below.alloc ?_ ?_ _) | (with_reducible refine Below.drew ?_) | (with_reducible refine Below.setCell ?_ ?_ _) | (with_reducible refine Below.step (by assumption) ?_ ?_) | (with_reducible exact And.left (by assumption)) | go_size)))⟩
    case rest =>
      obtain ⟨wd, rfl⟩ : ∃ w', w' = wc := ⟨wc, rfl⟩
      obtain ⟨X5, X6, rfl, rfl, x0, x1, y0, y1, l7, l8, m7, m8, hN⟩ := hcut
      have hbx := hN.out
      have hzx := hbx.size
      have z0d : wd.cell? ⟨w.heap.size + 1, 0, none⟩ = some (.int .i64 0) := by { rw [cellB hbx _ _ (by first | (simp; done) | (simp; omega) | omega)]; all_goals (first | assumption | go_simp) }; have z1d : wd.cell? ⟨w.heap.size + 1, 1, none⟩ = some (.int .i64 0) := by { rw [cellB hbx _ _ (by first | (simp; done) | (simp; omega) | omega)]; all_goals (first | assumption | go_simp) }; have f0d : wd.frozen? ⟨w.heap.size + 1, 0, none⟩ = false := by { rw [frozenB hbx _ _ (by first | (simp; done) | (simp; omega) | omega)]; all_goals (first | assumption | go_simp) }; have f1d : wd.frozen? ⟨w.heap.size + 1, 1, none⟩ = false := by { rw [frozenB hbx _ _ (by first | (simp; done) | (simp; omega) | omega)]; all_goals (first | assumption | go_simp) }; have l1d : w.heap.size + 1 < wd.heap.size := by { omega }
      have HBd := Lib.hid (HB5.out.trans (hbx.mono HB5.out.size))
      clear hbx hN z0 z1 f0 f1 q3 q4 q5 q6 HB5
      obtain ⟨⟨hv1, hv2⟩, _, _, ⟨ha1, ha2⟩, ⟨hb1, hb2⟩, ⟨hc1, hc2⟩, ⟨hd1, hd2⟩, _⟩ := hC
      have m1 := Int.mul_le_mul hv2 ha2 (by omega) (by omega)
      have m2 := Int.mul_le_mul hv2 hc2 (by omega) (by omega)
      have m3 := Int.mul_nonneg (show 0 ≤ lv by omega) (show 0 ≤ a by omega)
      have m4 := Int.mul_nonneg (show 0 ≤ lv by omega) (show 0 ≤ c by omega)
      have k1 : wrap64 (lv * a) = lv * a := by unfold wrap64; omega
      have k2 : wrap64 (lv * c) = lv * c := by unfold wrap64; omega
      have k3 : wrap64 (lv * c + d) = lv * c + d := by unfold wrap64; omega
      have k4 : wrap64 (lv * c + d - 1) = lv * c + d - 1 := by unfold wrap64; omega
      have d1 : 0 ≤ (lv * a).tdiv b ∧ (lv * a).tdiv b ≤ lv * a := by
        rw [Int.tdiv_eq_ediv_of_nonneg m3]
        exact ⟨Int.ediv_nonneg m3 (by omega), Int.ediv_le_self b m3⟩
      have d2 : 0 ≤ (lv * c + d - 1).tdiv d ∧ (lv * c + d - 1).tdiv d ≤ lv * c + d - 1 := by
        rw [Int.tdiv_eq_ediv_of_nonneg (by omega)]
        exact ⟨Int.ediv_nonneg (by omega) (by omega), Int.ediv_le_self d (by omega)⟩
      have k5 : wrap64 ((lv * a).tdiv b) = (lv * a).tdiv b := by unfold wrap64; omega
      have k6 : wrap64 ((lv * c + d - 1).tdiv d) = (lv * c + d - 1).tdiv d := by unfold wrap64; omega
      have hbz : b ≠ 0 := by omega
      have hdz : d ≠ 0 := by omega
      subst hV
      generalize hr1 : (lv * a).tdiv b = e1 at *
      generalize hr2 : (lv * c + d - 1).tdiv d = e2 at *
      clear d1 d2 m1 m2 m3 m4 HL
      go_wp2_with fail
      have ok5 : OkB X5 wd.heap.size (w.heap.size + 1) := ⟨l7, by omega⟩
      have ok6 : OkB X6 wd.heap.size (w.heap.size + 1) := ⟨l8, by omega⟩
      refine wp_region_laterX (B := wd.heap.size) (b0 :=  w.heap.size + 1) [0, 1, 2, 3, 4, 5, 6, 7, 8, 9, 10, 11, 12, 13, 14, 15, 16, 17, 18] [19, 20] (by kernel_rfl) (by kernel_rfl) ?_; simp only [List.filterMap_cons, List.filterMap_nil, List.getElem?_cons_zero, List.getElem?_cons_succ]; repeat (show wpQuiet _ _ _ _ (_ :: _) _; go_big_quiet_step (fail))
      refine wpQuiet_nil ?_
      refine wpTail_cons ?_
      go_wp2_with (fail)
      refine tailX_mk (.set (.set (.drew (fun _ _ _ _ => rfl)) _) _) ?_
      refine wpTail_cons ?_
      go_wp2_with (fail)
      refine tailX_mk (.set (.set (.drew (fun _ _ _ _ => rfl)) _) _) ?_
      refine wpTail_nil ?_
      go_wp2_with (fail)
      generalize hW : World.setCell _ _ _ = w9
      have r0 : w9.cell? ⟨w.heap.size + 1, 0, none⟩ = some (.int .i64 e1) := by { rw [← hW]; clear hW; go_simp }
      have r1 : w9.cell? ⟨w.heap.size + 1, 1, none⟩ = some (.int .i64 e2) := by { rw [← hW]; clear hW; go_simp }
      have hb9 : Below w.heap.size w w9 := by { rw [← hW]; have := HBd.out; (repeat' (first | (with_reducible exact Below.refl _ _) | (with_reducible assumption) | (with_reducible refine Below.drewN ?_ _) | (with_reducible refine Below.alloc ?_ ?_ _) | (with_reducible refine Below.drew ?_) | (with_reducible refine Below.setCell ?_ ?_ _) | (with_reducible refine Below.step (by assumption) ?_ ?_) | (with_reducible exact And.left (by assumption)) | go_size)) }
      clear hW
      exact bodyPost_ret (v := .tuple #[.agg #[.int .i64 e1, .int .i64 e2], .int .i64 0]) (by simp [results, Tryz.results32, go_sem, r0, r1]) rfl ⟨rfl, hb9.drew⟩
end Go.Proofs.YtdklmcicogmeaaaGreat
