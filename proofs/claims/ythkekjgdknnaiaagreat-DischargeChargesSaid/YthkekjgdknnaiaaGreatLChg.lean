import Derived.Test.YthkekjgdknnaiaaGreatBlk
import Derived.Test.YthkekjgdknnaiaaGreatDAwk
import Derived.Test.YthkekjgdknnaiaaGreatRCal
/- The level, the charge of a series, and a calibration: the statement's function. -/
namespace Go.Proofs.YthkekjgdknnaiaaGreat
open Go.RowKit
set_option linter.unusedVariables false

theorem levE_val {s : Ser} (h : (levE s).2 ≠ 0) : (levE s).1 = 0 := by
  unfold levE at h ⊢
  split
  · rfl
  · rename_i h1; rw [if_neg h1] at h; exact absurd rfl h
theorem chgE_err {s : Ser} : (chgE s).2 = (levE s).2 := by
  unfold chgE
  by_cases h : (levE s).2 ≠ 0
  · rw [if_pos h]
  · rw [if_neg h]; exact (Decidable.not_not.1 h).symm
set_option maxHeartbeats 2000000 in
set_option maxRecDepth 100000 in
theorem chg_few (s : Ser) (l : List Int) (lo hi : Int) (ap ar : Option Addr) (n cp m cm : Nat) (w : World) (hw : SerW s) (hs : T3R w ap n s.l) (hl : IntsR w ar m l) (h : ¬ ((n ≤ 64 ∧ s.nm.size ≤ 30) ∧ m ≤ 64)) :
    Calls Tryz.prog 4 #[.agg #[.string s.nm, .int .i64 s.per, .int .i64 s.least, .int .i64 s.a, .int .i64 s.b, .int .i64 s.c, .int .i64 s.d, .slice ap n cp], .slice ar m cm, .agg #[.int .i64 lo, .int .i64 hi]] w fun e' w' => e' = .returned (.bool true) ∧ Below w.heap.size w w' := by
  have hm := hl.small
  have HFW := Lib.hid (fun W => few9_any s ap n cp W hs.small hw.1)
  clear hw hs hl
  by_cases h1 : n ≤ 64 ∧ s.nm.size ≤ 30
  · have h2 : ¬ m ≤ 64 := fun h2 => h ⟨h1, h2⟩
    have s1 : (64 < (m : Int)) = True := by simp; omega
    have s1' : decide (64 < (m : Int)) = true := decide_eq_true (by omega)
    rw [decide_eq_true h1.1, decide_eq_true h1.2] at HFW
    obtain ⟨nm, per, least, a, b, c, d, L⟩ := s
    simp only at *
    clear h h1 h2
    go_enter Tryz.func4, Tryz.ntmps4
    go_wp2_with fail
    generalize hW : World.alloc _ _ = w4
    have hb4 : Below w.heap.size w w4 := by rw [← hW]; (repeat' (first | (with_reducible exact Below.refl _ _) | (with_reducible assumption) | (with_reducible refine Below.drewN ?_ _) | (with_reducible refine Below.alloc ?_ ?_ _) | (with_reducible refine Below.drew ?_) | (with_reducible refine Below.setCell ?_ ?_ _) | (with_reducible refine Below.step (by assumption) ?_ ?_) | (with_reducible exact And.left (by assumption)) | go_size))
    have x0 : w4.cell? ⟨w.heap.size, 0, none⟩ = some (.string nm) := by { rw [← hW]; clear hW; go_simp }
    have x1 : w4.cell? ⟨w.heap.size, 1, none⟩ = some (.int .i64 per) := by { rw [← hW]; clear hW; go_simp }
    have x2 : w4.cell? ⟨w.heap.size, 2, none⟩ = some (.int .i64 least) := by { rw [← hW]; clear hW; go_simp }
    have x3 : w4.cell? ⟨w.heap.size, 3, none⟩ = some (.int .i64 a) := by { rw [← hW]; clear hW; go_simp }
    have x4 : w4.cell? ⟨w.heap.size, 4, none⟩ = some (.int .i64 b) := by { rw [← hW]; clear hW; go_simp }
    have x5 : w4.cell? ⟨w.heap.size, 5, none⟩ = some (.int .i64 c) := by { rw [← hW]; clear hW; go_simp }
    have x6 : w4.cell? ⟨w.heap.size, 6, none⟩ = some (.int .i64 d) := by { rw [← hW]; clear hW; go_simp }
    have x7 : w4.cell? ⟨w.heap.size, 7, none⟩ = some (.slice ap n cp) := by { rw [← hW]; clear hW; go_simp }
    have h0 : w4.cell? ⟨w.heap.size + 1, 0, none⟩ = some (.int .i64 lo) := by { rw [← hW]; clear hW; go_simp }
    have h1 : w4.cell? ⟨w.heap.size + 1, 1, none⟩ = some (.int .i64 hi) := by { rw [← hW]; clear hW; go_simp }
    have lh : w.heap.size + 1 < w4.heap.size := by { rw [← hW]; clear hW; simp }
    have lx : w.heap.size < w4.heap.size := by omega
    have HB := Lib.hid hb4
    clear hW hb4
    refine (awake9_any _).mono ?_
    rintro e5 w5 ⟨rfl, hb5⟩
    have hzx := hb5.size
    have x0d : w5.cell? ⟨w.heap.size, 0, none⟩ = some (.string nm) := by { rw [cellB hb5 _ _ (by first | (simp; done) | (simp; omega) | omega)]; all_goals (first | assumption | go_simp) }; have x1d : w5.cell? ⟨w.heap.size, 1, none⟩ = some (.int .i64 per) := by { rw [cellB hb5 _ _ (by first | (simp; done) | (simp; omega) | omega)]; all_goals (first | assumption | go_simp) }; have x2d : w5.cell? ⟨w.heap.size, 2, none⟩ = some (.int .i64 least) := by { rw [cellB hb5 _ _ (by first | (simp; done) | (simp; omega) | omega)]; all_goals (first | assumption | go_simp) }; have x3d : w5.cell? ⟨w.heap.size, 3, none⟩ = some (.int .i64 a) := by { rw [cellB hb5 _ _ (by first | (simp; done) | (simp; omega) | omega)]; all_goals (first | assumption | go_simp) }; have x4d : w5.cell? ⟨w.heap.size, 4, none⟩ = some (.int .i64 b) := by { rw [cellB hb5 _ _ (by first | (simp; done) | (simp; omega) | omega)]; all_goals (first | assumption | go_simp) }; have x5d : w5.cell? ⟨w.heap.size, 5, none⟩ = some (.int .i64 c) := by { rw [cellB hb5 _ _ (by first | (simp; done) | (simp; omega) | omega)]; all_goals (first | assumption | go_simp) }; have x6d : w5.cell? ⟨w.heap.size, 6, none⟩ = some (.int .i64 d) := by { rw [cellB hb5 _ _ (by first | (simp; done) | (simp; omega) | omega)]; all_goals (first | assumption | go_simp) }; have x7d : w5.cell? ⟨w.heap.size, 7, none⟩ = some (.slice ap n cp) := by { rw [cellB hb5 _ _ (by first | (simp; done) | (simp; omega) | omega)]; all_goals (first | assumption | go_simp) }; have h0d : w5.cell? ⟨w.heap.size + 1, 0, none⟩ = some (.int .i64 lo) := by { rw [cellB hb5 _ _ (by first | (simp; done) | (simp; omega) | omega)]; all_goals (first | assumption | go_simp) }; have h1d : w5.cell? ⟨w.heap.size + 1, 1, none⟩ = some (.int .i64 hi) := by { rw [cellB hb5 _ _ (by first | (simp; done) | (simp; omega) | omega)]; all_goals (first | assumption | go_simp) }; have lxd : w.heap.size < w5.heap.size := by { omega }; have lhd : w.heap.size + 1 < w5.heap.size := by { omega }
    have HB := Lib.hid (HB.out.trans (hb5.mono HB.out.size))
    clear x0 x1 x2 x3 x4 x5 x6 x7 h0 h1 lx lh hzx
    clear hb5
    go_wp2_with fail
    refine (HFW.out _).mono ?_
    rintro e6 w6 ⟨rfl, hb6⟩
    have hzx := hb6.size
    have x0 : w6.cell? ⟨w.heap.size, 0, none⟩ = some (.string nm) := by { rw [cellB hb6 _ _ (by first | (simp; done) | (simp; omega) | omega)]; all_goals (first | assumption | go_simp) }; have x1 : w6.cell? ⟨w.heap.size, 1, none⟩ = some (.int .i64 per) := by { rw [cellB hb6 _ _ (by first | (simp; done) | (simp; omega) | omega)]; all_goals (first | assumption | go_simp) }; have x2 : w6.cell? ⟨w.heap.size, 2, none⟩ = some (.int .i64 least) := by { rw [cellB hb6 _ _ (by first | (simp; done) | (simp; omega) | omega)]; all_goals (first | assumption | go_simp) }; have x3 : w6.cell? ⟨w.heap.size, 3, none⟩ = some (.int .i64 a) := by { rw [cellB hb6 _ _ (by first | (simp; done) | (simp; omega) | omega)]; all_goals (first | assumption | go_simp) }; have x4 : w6.cell? ⟨w.heap.size, 4, none⟩ = some (.int .i64 b) := by { rw [cellB hb6 _ _ (by first | (simp; done) | (simp; omega) | omega)]; all_goals (first | assumption | go_simp) }; have x5 : w6.cell? ⟨w.heap.size, 5, none⟩ = some (.int .i64 c) := by { rw [cellB hb6 _ _ (by first | (simp; done) | (simp; omega) | omega)]; all_goals (first | assumption | go_simp) }; have x6 : w6.cell? ⟨w.heap.size, 6, none⟩ = some (.int .i64 d) := by { rw [cellB hb6 _ _ (by first | (simp; done) | (simp; omega) | omega)]; all_goals (first | assumption | go_simp) }; have x7 : w6.cell? ⟨w.heap.size, 7, none⟩ = some (.slice ap n cp) := by { rw [cellB hb6 _ _ (by first | (simp; done) | (simp; omega) | omega)]; all_goals (first | assumption | go_simp) }; have h0 : w6.cell? ⟨w.heap.size + 1, 0, none⟩ = some (.int .i64 lo) := by { rw [cellB hb6 _ _ (by first | (simp; done) | (simp; omega) | omega)]; all_goals (first | assumption | go_simp) }; have h1 : w6.cell? ⟨w.heap.size + 1, 1, none⟩ = some (.int .i64 hi) := by { rw [cellB hb6 _ _ (by first | (simp; done) | (simp; omega) | omega)]; all_goals (first | assumption | go_simp) }; have lx : w.heap.size < w6.heap.size := by { omega }; have lh : w.heap.size + 1 < w6.heap.size := by { omega }
    have HB := Lib.hid (HB.out.trans (hb6.mono HB.out.size))
    clear x0d x1d x2d x3d x4d x5d x6d x7d h0d h1d lxd lhd hzx
    clear hb6
    go_wp2
    go_ret
    exact ⟨ret_bool (by simp), HB.out⟩
  · have h2 : (decide (n ≤ 64) && decide (s.nm.size ≤ 30)) = false := by
      rw [Bool.and_eq_false_iff]
      by_cases h3 : n ≤ 64
      · right; exact decide_eq_false (fun h4 => h1 ⟨h3, h4⟩)
      · left; exact decide_eq_false h3
    rw [h2] at HFW
    obtain ⟨nm, per, least, a, b, c, d, L⟩ := s
    simp only at *
    clear h h1 h2
    go_enter Tryz.func4, Tryz.ntmps4
    go_wp2_with fail
    generalize hW : World.alloc _ _ = w4
    have hb4 : Below w.heap.size w w4 := by rw [← hW]; (repeat' (first | (with_reducible exact Below.refl _ _) | (with_reducible assumption) | (with_reducible refine Below.drewN ?_ _) | (with_reducible refine Below.alloc ?_ ?_ _) | (with_reducible refine Below.drew ?_) | (with_reducible refine Below.setCell ?_ ?_ _) | (with_reducible refine Below.step (by assumption) ?_ ?_) | (with_reducible exact And.left (by assumption)) | go_size))
    have x0 : w4.cell? ⟨w.heap.size, 0, none⟩ = some (.string nm) := by { rw [← hW]; clear hW; go_simp }
    have x1 : w4.cell? ⟨w.heap.size, 1, none⟩ = some (.int .i64 per) := by { rw [← hW]; clear hW; go_simp }
    have x2 : w4.cell? ⟨w.heap.size, 2, none⟩ = some (.int .i64 least) := by { rw [← hW]; clear hW; go_simp }
    have x3 : w4.cell? ⟨w.heap.size, 3, none⟩ = some (.int .i64 a) := by { rw [← hW]; clear hW; go_simp }
    have x4 : w4.cell? ⟨w.heap.size, 4, none⟩ = some (.int .i64 b) := by { rw [← hW]; clear hW; go_simp }
    have x5 : w4.cell? ⟨w.heap.size, 5, none⟩ = some (.int .i64 c) := by { rw [← hW]; clear hW; go_simp }
    have x6 : w4.cell? ⟨w.heap.size, 6, none⟩ = some (.int .i64 d) := by { rw [← hW]; clear hW; go_simp }
    have x7 : w4.cell? ⟨w.heap.size, 7, none⟩ = some (.slice ap n cp) := by { rw [← hW]; clear hW; go_simp }
    have h0 : w4.cell? ⟨w.heap.size + 1, 0, none⟩ = some (.int .i64 lo) := by { rw [← hW]; clear hW; go_simp }
    have h1 : w4.cell? ⟨w.heap.size + 1, 1, none⟩ = some (.int .i64 hi) := by { rw [← hW]; clear hW; go_simp }
    have lh : w.heap.size + 1 < w4.heap.size := by { rw [← hW]; clear hW; simp }
    have lx : w.heap.size < w4.heap.size := by omega
    have HB := Lib.hid hb4
    clear hW hb4
    refine (awake9_any _).mono ?_
    rintro e5 w5 ⟨rfl, hb5⟩
    have hzx := hb5.size
    have x0d : w5.cell? ⟨w.heap.size, 0, none⟩ = some (.string nm) := by { rw [cellB hb5 _ _ (by first | (simp; done) | (simp; omega) | omega)]; all_goals (first | assumption | go_simp) }; have x1d : w5.cell? ⟨w.heap.size, 1, none⟩ = some (.int .i64 per) := by { rw [cellB hb5 _ _ (by first | (simp; done) | (simp; omega) | omega)]; all_goals (first | assumption | go_simp) }; have x2d : w5.cell? ⟨w.heap.size, 2, none⟩ = some (.int .i64 least) := by { rw [cellB hb5 _ _ (by first | (simp; done) | (simp; omega) | omega)]; all_goals (first | assumption | go_simp) }; have x3d : w5.cell? ⟨w.heap.size, 3, none⟩ = some (.int .i64 a) := by { rw [cellB hb5 _ _ (by first | (simp; done) | (simp; omega) | omega)]; all_goals (first | assumption | go_simp) }; have x4d : w5.cell? ⟨w.heap.size, 4, none⟩ = some (.int .i64 b) := by { rw [cellB hb5 _ _ (by first | (simp; done) | (simp; omega) | omega)]; all_goals (first | assumption | go_simp) }; have x5d : w5.cell? ⟨w.heap.size, 5, none⟩ = some (.int .i64 c) := by { rw [cellB hb5 _ _ (by first | (simp; done) | (simp; omega) | omega)]; all_goals (first | assumption | go_simp) }; have x6d : w5.cell? ⟨w.heap.size, 6, none⟩ = some (.int .i64 d) := by { rw [cellB hb5 _ _ (by first | (simp; done) | (simp; omega) | omega)]; all_goals (first | assumption | go_simp) }; have x7d : w5.cell? ⟨w.heap.size, 7, none⟩ = some (.slice ap n cp) := by { rw [cellB hb5 _ _ (by first | (simp; done) | (simp; omega) | omega)]; all_goals (first | assumption | go_simp) }; have h0d : w5.cell? ⟨w.heap.size + 1, 0, none⟩ = some (.int .i64 lo) := by { rw [cellB hb5 _ _ (by first | (simp; done) | (simp; omega) | omega)]; all_goals (first | assumption | go_simp) }; have h1d : w5.cell? ⟨w.heap.size + 1, 1, none⟩ = some (.int .i64 hi) := by { rw [cellB hb5 _ _ (by first | (simp; done) | (simp; omega) | omega)]; all_goals (first | assumption | go_simp) }; have lxd : w.heap.size < w5.heap.size := by { omega }; have lhd : w.heap.size + 1 < w5.heap.size := by { omega }
    have HB := Lib.hid (HB.out.trans (hb5.mono HB.out.size))
    clear x0 x1 x2 x3 x4 x5 x6 x7 h0 h1 lx lh hzx
    clear hb5
    go_wp2_with fail
    refine (HFW.out _).mono ?_
    rintro e6 w6 ⟨rfl, hb6⟩
    have hzx := hb6.size
    have x0 : w6.cell? ⟨w.heap.size, 0, none⟩ = some (.string nm) := by { rw [cellB hb6 _ _ (by first | (simp; done) | (simp; omega) | omega)]; all_goals (first | assumption | go_simp) }; have x1 : w6.cell? ⟨w.heap.size, 1, none⟩ = some (.int .i64 per) := by { rw [cellB hb6 _ _ (by first | (simp; done) | (simp; omega) | omega)]; all_goals (first | assumption | go_simp) }; have x2 : w6.cell? ⟨w.heap.size, 2, none⟩ = some (.int .i64 least) := by { rw [cellB hb6 _ _ (by first | (simp; done) | (simp; omega) | omega)]; all_goals (first | assumption | go_simp) }; have x3 : w6.cell? ⟨w.heap.size, 3, none⟩ = some (.int .i64 a) := by { rw [cellB hb6 _ _ (by first | (simp; done) | (simp; omega) | omega)]; all_goals (first | assumption | go_simp) }; have x4 : w6.cell? ⟨w.heap.size, 4, none⟩ = some (.int .i64 b) := by { rw [cellB hb6 _ _ (by first | (simp; done) | (simp; omega) | omega)]; all_goals (first | assumption | go_simp) }; have x5 : w6.cell? ⟨w.heap.size, 5, none⟩ = some (.int .i64 c) := by { rw [cellB hb6 _ _ (by first | (simp; done) | (simp; omega) | omega)]; all_goals (first | assumption | go_simp) }; have x6 : w6.cell? ⟨w.heap.size, 6, none⟩ = some (.int .i64 d) := by { rw [cellB hb6 _ _ (by first | (simp; done) | (simp; omega) | omega)]; all_goals (first | assumption | go_simp) }; have x7 : w6.cell? ⟨w.heap.size, 7, none⟩ = some (.slice ap n cp) := by { rw [cellB hb6 _ _ (by first | (simp; done) | (simp; omega) | omega)]; all_goals (first | assumption | go_simp) }; have h0 : w6.cell? ⟨w.heap.size + 1, 0, none⟩ = some (.int .i64 lo) := by { rw [cellB hb6 _ _ (by first | (simp; done) | (simp; omega) | omega)]; all_goals (first | assumption | go_simp) }; have h1 : w6.cell? ⟨w.heap.size + 1, 1, none⟩ = some (.int .i64 hi) := by { rw [cellB hb6 _ _ (by first | (simp; done) | (simp; omega) | omega)]; all_goals (first | assumption | go_simp) }; have lx : w.heap.size < w6.heap.size := by { omega }; have lh : w.heap.size + 1 < w6.heap.size := by { omega }
    have HB := Lib.hid (HB.out.trans (hb6.mono HB.out.size))
    clear x0d x1d x2d x3d x4d x5d x6d x7d h0d h1d lxd lhd hzx
    clear hb6
    go_wp2
    go_ret
    exact ⟨ret_bool (by simp), HB.out⟩
set_option maxHeartbeats 4000000 in
set_option maxRecDepth 100000 in
theorem chg_main (s : Ser) (l : List Int) (lo hi : Int) (ap ar : Option Addr) (n cp m cm : Nat) (w : World) (hw : SerW s) (hs : T3R w ap n s.l) (hl : IntsR w ar m l) (h1 : n ≤ 64) (h2 : s.nm.size ≤ 30) (h3 : m ≤ 64) :
    Calls Tryz.prog 4 #[.agg #[.string s.nm, .int .i64 s.per, .int .i64 s.least, .int .i64 s.a, .int .i64 s.b, .int .i64 s.c, .int .i64 s.d, .slice ap n cp], .slice ar m cm, .agg #[.int .i64 lo, .int .i64 hi]] w fun e' w' => e' = .returned (.bool true) ∧ Below w.heap.size w w' := by
  have HFW := Lib.hid (fun W => few9_any s ap n cp W hs.small hw.1)
  rw [decide_eq_true h1, decide_eq_true h2] at HFW
  have s1 : (64 < (m : Int)) = False := by simp; omega
  have s1' : decide (64 < (m : Int)) = false := decide_eq_false (by omega)
  have HCS := Lib.hid (fun (W : World) (hb : Below w.heap.size w W) => copySeries_any s ap n cp W (hs.below hb) (by omega))
  have HCI := Lib.hid (fun (W : World) (hb : Below w.heap.size w W) => copyInts_any l ar m cm W (hl.below hb) (by omega))
  have HLV := Lib.hid (fun (a' : Option Addr) (c' : Nat) (W : World) (h : T3R W a' n s.l) => levelOf_any s a' n c' W hw h)
  have HCG := Lib.hid (fun (a' : Option Addr) (c' : Nat) (W : World) (h : T3R W a' n s.l) => chargeOf_any s a' n c' W hw h)
  have HCAL := Lib.hid (fun (a' : Option Addr) (c' : Nat) (W : World) (h : IntsR W a' m l) => calibrationOf_any l lo hi a' m c' W h)
  have HRG := Lib.hid (fun (W : World) (hb : Below w.heap.size w W) => rChargeOf_any s ap n cp W hw (hs.below hb))
  have HRC := Lib.hid (fun (W : World) (hb : Below w.heap.size w W) => rCalibrationOf_any l lo hi ar m cm W (hl.below hb))
  have HRL := Lib.hid (fun (he : (levE s).2 = 0) (W : World) (hb : Below w.heap.size w W) => show Calls Tryz.prog 33 #[.agg #[.string s.nm, .int .i64 s.per, .int .i64 s.least, .int .i64 s.a, .int .i64 s.b, .int .i64 s.c, .int .i64 s.d, .slice ap n cp]] W fun e' w' => e' = .returned (.tuple #[.int .i64 (levE s).1, .bool true]) ∧ Below W.heap.size W w' by
    have hv : (serE s).2 = 0 := by
      by_cases h : (serE s).2 = 0
      · exact h
      · rw [levE_bad h] at he; exact absurd he h
    have h := rLevel_any s ap n cp W hv (hs.below hb)
    have h4 := levE_err hv
    rw [he] at h4
    have h5 : s.least ≤ (s.l.length : Int) := by
      by_cases h6 : s.least ≤ (s.l.length : Int)
      · exact h6
      · rw [if_neg h6] at h4; cases h4
    rw [lvlD_ser hv, if_pos h5] at h
    exact h)
  have HZ := Lib.hid (levE_val (s := s))
  have hce := chgE_err (s := s)
  clear hw hs hl h1 h2 h3
  generalize levE s = LE at *
  generalize chgE s = CE at *
  generalize calOf l lo hi = KE at *
  obtain ⟨q, e⟩ := LE
  obtain ⟨⟨c1, c2⟩, f⟩ := CE
  obtain ⟨⟨⟨k1, k2⟩, k3, k4⟩, g⟩ := KE
  simp only at hce
  subst hce
  obtain ⟨nm, per, least, a, b, c, d, L⟩ := s
  simp only at *
  go_enter Tryz.func4, Tryz.ntmps4
  go_wp2_with fail
  generalize hW : World.alloc _ _ = w4
  have hb4 : Below w.heap.size w w4 := by rw [← hW]; (repeat' (first | (with_reducible exact Below.refl _ _) | (with_reducible assumption) | (with_reducible refine Below.drewN ?_ _) | (with_reducible refine Below.alloc ?_ ?_ _) | (with_reducible refine Below.drew ?_) | (with_reducible refine Below.setCell ?_ ?_ _) | (with_reducible refine Below.step (by assumption) ?_ ?_) | (with_reducible exact And.left (by assumption)) | go_size))
  have x0 : w4.cell? ⟨w.heap.size, 0, none⟩ = some (.string nm) := by { rw [← hW]; clear hW; go_simp }
  have x1 : w4.cell? ⟨w.heap.size, 1, none⟩ = some (.int .i64 per) := by { rw [← hW]; clear hW; go_simp }
  have x2 : w4.cell? ⟨w.heap.size, 2, none⟩ = some (.int .i64 least) := by { rw [← hW]; clear hW; go_simp }
  have x3 : w4.cell? ⟨w.heap.size, 3, none⟩ = some (.int .i64 a) := by { rw [← hW]; clear hW; go_simp }
  have x4 : w4.cell? ⟨w.heap.size, 4, none⟩ = some (.int .i64 b) := by { rw [← hW]; clear hW; go_simp }
  have x5 : w4.cell? ⟨w.heap.size, 5, none⟩ = some (.int .i64 c) := by { rw [← hW]; clear hW; go_simp }
  have x6 : w4.cell? ⟨w.heap.size, 6, none⟩ = some (.int .i64 d) := by { rw [← hW]; clear hW; go_simp }
  have x7 : w4.cell? ⟨w.heap.size, 7, none⟩ = some (.slice ap n cp) := by { rw [← hW]; clear hW; go_simp }
  have h0 : w4.cell? ⟨w.heap.size + 1, 0, none⟩ = some (.int .i64 lo) := by { rw [← hW]; clear hW; go_simp }
  have h1 : w4.cell? ⟨w.heap.size + 1, 1, none⟩ = some (.int .i64 hi) := by { rw [← hW]; clear hW; go_simp }
  have lh : w.heap.size + 1 < w4.heap.size := by { rw [← hW]; clear hW; simp }
  have lx : w.heap.size < w4.heap.size := by omega
  have HB := Lib.hid hb4
  clear hW hb4
  refine (awake9_any _).mono ?_
  rintro e5 w5 ⟨rfl, hb5⟩
  have hzx := hb5.size
  have x0d : w5.cell? ⟨w.heap.size, 0, none⟩ = some (.string nm) := by { rw [cellB hb5 _ _ (by first | (simp; done) | (simp; omega) | omega)]; all_goals (first | assumption | go_simp) }; have x1d : w5.cell? ⟨w.heap.size, 1, none⟩ = some (.int .i64 per) := by { rw [cellB hb5 _ _ (by first | (simp; done) | (simp; omega) | omega)]; all_goals (first | assumption | go_simp) }; have x2d : w5.cell? ⟨w.heap.size, 2, none⟩ = some (.int .i64 least) := by { rw [cellB hb5 _ _ (by first | (simp; done) | (simp; omega) | omega)]; all_goals (first | assumption | go_simp) }; have x3d : w5.cell? ⟨w.heap.size, 3, none⟩ = some (.int .i64 a) := by { rw [cellB hb5 _ _ (by first | (simp; done) | (simp; omega) | omega)]; all_goals (first | assumption | go_simp) }; have x4d : w5.cell? ⟨w.heap.size, 4, none⟩ = some (.int .i64 b) := by { rw [cellB hb5 _ _ (by first | (simp; done) | (simp; omega) | omega)]; all_goals (first | assumption | go_simp) }; have x5d : w5.cell? ⟨w.heap.size, 5, none⟩ = some (.int .i64 c) := by { rw [cellB hb5 _ _ (by first | (simp; done) | (simp; omega) | omega)]; all_goals (first | assumption | go_simp) }; have x6d : w5.cell? ⟨w.heap.size, 6, none⟩ = some (.int .i64 d) := by { rw [cellB hb5 _ _ (by first | (simp; done) | (simp; omega) | omega)]; all_goals (first | assumption | go_simp) }; have x7d : w5.cell? ⟨w.heap.size, 7, none⟩ = some (.slice ap n cp) := by { rw [cellB hb5 _ _ (by first | (simp; done) | (simp; omega) | omega)]; all_goals (first | assumption | go_simp) }; have h0d : w5.cell? ⟨w.heap.size + 1, 0, none⟩ = some (.int .i64 lo) := by { rw [cellB hb5 _ _ (by first | (simp; done) | (simp; omega) | omega)]; all_goals (first | assumption | go_simp) }; have h1d : w5.cell? ⟨w.heap.size + 1, 1, none⟩ = some (.int .i64 hi) := by { rw [cellB hb5 _ _ (by first | (simp; done) | (simp; omega) | omega)]; all_goals (first | assumption | go_simp) }; have lxd : w.heap.size < w5.heap.size := by { omega }; have lhd : w.heap.size + 1 < w5.heap.size := by { omega }
  have HB := Lib.hid (HB.out.trans (hb5.mono HB.out.size))
  clear x0 x1 x2 x3 x4 x5 x6 x7 h0 h1 lx lh hzx
  clear hb5
  go_wp2_with fail
  refine (HFW.out _).mono ?_
  rintro e6 w6 ⟨rfl, hb6⟩
  have hzx := hb6.size
  have x0 : w6.cell? ⟨w.heap.size, 0, none⟩ = some (.string nm) := by { rw [cellB hb6 _ _ (by first | (simp; done) | (simp; omega) | omega)]; all_goals (first | assumption | go_simp) }; have x1 : w6.cell? ⟨w.heap.size, 1, none⟩ = some (.int .i64 per) := by { rw [cellB hb6 _ _ (by first | (simp; done) | (simp; omega) | omega)]; all_goals (first | assumption | go_simp) }; have x2 : w6.cell? ⟨w.heap.size, 2, none⟩ = some (.int .i64 least) := by { rw [cellB hb6 _ _ (by first | (simp; done) | (simp; omega) | omega)]; all_goals (first | assumption | go_simp) }; have x3 : w6.cell? ⟨w.heap.size, 3, none⟩ = some (.int .i64 a) := by { rw [cellB hb6 _ _ (by first | (simp; done) | (simp; omega) | omega)]; all_goals (first | assumption | go_simp) }; have x4 : w6.cell? ⟨w.heap.size, 4, none⟩ = some (.int .i64 b) := by { rw [cellB hb6 _ _ (by first | (simp; done) | (simp; omega) | omega)]; all_goals (first | assumption | go_simp) }; have x5 : w6.cell? ⟨w.heap.size, 5, none⟩ = some (.int .i64 c) := by { rw [cellB hb6 _ _ (by first | (simp; done) | (simp; omega) | omega)]; all_goals (first | assumption | go_simp) }; have x6 : w6.cell? ⟨w.heap.size, 6, none⟩ = some (.int .i64 d) := by { rw [cellB hb6 _ _ (by first | (simp; done) | (simp; omega) | omega)]; all_goals (first | assumption | go_simp) }; have x7 : w6.cell? ⟨w.heap.size, 7, none⟩ = some (.slice ap n cp) := by { rw [cellB hb6 _ _ (by first | (simp; done) | (simp; omega) | omega)]; all_goals (first | assumption | go_simp) }; have h0 : w6.cell? ⟨w.heap.size + 1, 0, none⟩ = some (.int .i64 lo) := by { rw [cellB hb6 _ _ (by first | (simp; done) | (simp; omega) | omega)]; all_goals (first | assumption | go_simp) }; have h1 : w6.cell? ⟨w.heap.size + 1, 1, none⟩ = some (.int .i64 hi) := by { rw [cellB hb6 _ _ (by first | (simp; done) | (simp; omega) | omega)]; all_goals (first | assumption | go_simp) }; have lx : w.heap.size < w6.heap.size := by { omega }; have lh : w.heap.size + 1 < w6.heap.size := by { omega }
  have HB := Lib.hid (HB.out.trans (hb6.mono HB.out.size))
  clear x0d x1d x2d x3d x4d x5d x6d x7d h0d h1d lxd lhd hzx
  clear hb6
  go_wp2_with fail
  refine (HCS.out _ HB.out).mono ?_
  rintro e7 w7 ⟨a7, c7, rfl, hb7, ht7, _⟩
  have hzx := hb7.size
  have x0d : w7.cell? ⟨w.heap.size, 0, none⟩ = some (.string nm) := by { rw [cellB hb7 _ _ (by first | (simp; done) | (simp; omega) | omega)]; all_goals (first | assumption | go_simp) }; have x1d : w7.cell? ⟨w.heap.size, 1, none⟩ = some (.int .i64 per) := by { rw [cellB hb7 _ _ (by first | (simp; done) | (simp; omega) | omega)]; all_goals (first | assumption | go_simp) }; have x2d : w7.cell? ⟨w.heap.size, 2, none⟩ = some (.int .i64 least) := by { rw [cellB hb7 _ _ (by first | (simp; done) | (simp; omega) | omega)]; all_goals (first | assumption | go_simp) }; have x3d : w7.cell? ⟨w.heap.size, 3, none⟩ = some (.int .i64 a) := by { rw [cellB hb7 _ _ (by first | (simp; done) | (simp; omega) | omega)]; all_goals (first | assumption | go_simp) }; have x4d : w7.cell? ⟨w.heap.size, 4, none⟩ = some (.int .i64 b) := by { rw [cellB hb7 _ _ (by first | (simp; done) | (simp; omega) | omega)]; all_goals (first | assumption | go_simp) }; have x5d : w7.cell? ⟨w.heap.size, 5, none⟩ = some (.int .i64 c) := by { rw [cellB hb7 _ _ (by first | (simp; done) | (simp; omega) | omega)]; all_goals (first | assumption | go_simp) }; have x6d : w7.cell? ⟨w.heap.size, 6, none⟩ = some (.int .i64 d) := by { rw [cellB hb7 _ _ (by first | (simp; done) | (simp; omega) | omega)]; all_goals (first | assumption | go_simp) }; have x7d : w7.cell? ⟨w.heap.size, 7, none⟩ = some (.slice ap n cp) := by { rw [cellB hb7 _ _ (by first | (simp; done) | (simp; omega) | omega)]; all_goals (first | assumption | go_simp) }; have h0d : w7.cell? ⟨w.heap.size + 1, 0, none⟩ = some (.int .i64 lo) := by { rw [cellB hb7 _ _ (by first | (simp; done) | (simp; omega) | omega)]; all_goals (first | assumption | go_simp) }; have h1d : w7.cell? ⟨w.heap.size + 1, 1, none⟩ = some (.int .i64 hi) := by { rw [cellB hb7 _ _ (by first | (simp; done) | (simp; omega) | omega)]; all_goals (first | assumption | go_simp) }; have lxd : w.heap.size < w7.heap.size := by { omega }; have lhd : w.heap.size + 1 < w7.heap.size := by { omega }
  have HB := Lib.hid (HB.out.trans (hb7.mono HB.out.size))
  clear x0 x1 x2 x3 x4 x5 x6 x7 h0 h1 lx lh hzx
  clear hb7
  go_wp2_with fail
  refine (HLV.out a7 c7 _ ht7).mono ?_
  rintro e8 w8 ⟨rfl, hb8⟩
  have hzx := hb8.size
  have x0 : w8.cell? ⟨w.heap.size, 0, none⟩ = some (.string nm) := by { rw [cellB hb8 _ _ (by first | (simp; done) | (simp; omega) | omega)]; all_goals (first | assumption | go_simp) }; have x1 : w8.cell? ⟨w.heap.size, 1, none⟩ = some (.int .i64 per) := by { rw [cellB hb8 _ _ (by first | (simp; done) | (simp; omega) | omega)]; all_goals (first | assumption | go_simp) }; have x2 : w8.cell? ⟨w.heap.size, 2, none⟩ = some (.int .i64 least) := by { rw [cellB hb8 _ _ (by first | (simp; done) | (simp; omega) | omega)]; all_goals (first | assumption | go_simp) }; have x3 : w8.cell? ⟨w.heap.size, 3, none⟩ = some (.int .i64 a) := by { rw [cellB hb8 _ _ (by first | (simp; done) | (simp; omega) | omega)]; all_goals (first | assumption | go_simp) }; have x4 : w8.cell? ⟨w.heap.size, 4, none⟩ = some (.int .i64 b) := by { rw [cellB hb8 _ _ (by first | (simp; done) | (simp; omega) | omega)]; all_goals (first | assumption | go_simp) }; have x5 : w8.cell? ⟨w.heap.size, 5, none⟩ = some (.int .i64 c) := by { rw [cellB hb8 _ _ (by first | (simp; done) | (simp; omega) | omega)]; all_goals (first | assumption | go_simp) }; have x6 : w8.cell? ⟨w.heap.size, 6, none⟩ = some (.int .i64 d) := by { rw [cellB hb8 _ _ (by first | (simp; done) | (simp; omega) | omega)]; all_goals (first | assumption | go_simp) }; have x7 : w8.cell? ⟨w.heap.size, 7, none⟩ = some (.slice ap n cp) := by { rw [cellB hb8 _ _ (by first | (simp; done) | (simp; omega) | omega)]; all_goals (first | assumption | go_simp) }; have h0 : w8.cell? ⟨w.heap.size + 1, 0, none⟩ = some (.int .i64 lo) := by { rw [cellB hb8 _ _ (by first | (simp; done) | (simp; omega) | omega)]; all_goals (first | assumption | go_simp) }; have h1 : w8.cell? ⟨w.heap.size + 1, 1, none⟩ = some (.int .i64 hi) := by { rw [cellB hb8 _ _ (by first | (simp; done) | (simp; omega) | omega)]; all_goals (first | assumption | go_simp) }; have lx : w.heap.size < w8.heap.size := by { omega }; have lh : w.heap.size + 1 < w8.heap.size := by { omega }
  have HB := Lib.hid (HB.out.trans (hb8.mono HB.out.size))
  clear x0d x1d x2d x3d x4d x5d x6d x7d h0d h1d lxd lhd hzx
  clear hb8 ht7 HLV
  go_wp2_with fail
  refine (HCS.out _ HB.out).mono ?_
  rintro e7 w9 ⟨a9, c9, rfl, hb9, ht9, _⟩
  have hzx := hb9.size
  have x0d : w9.cell? ⟨w.heap.size, 0, none⟩ = some (.string nm) := by { rw [cellB hb9 _ _ (by first | (simp; done) | (simp; omega) | omega)]; all_goals (first | assumption | go_simp) }; have x1d : w9.cell? ⟨w.heap.size, 1, none⟩ = some (.int .i64 per) := by { rw [cellB hb9 _ _ (by first | (simp; done) | (simp; omega) | omega)]; all_goals (first | assumption | go_simp) }; have x2d : w9.cell? ⟨w.heap.size, 2, none⟩ = some (.int .i64 least) := by { rw [cellB hb9 _ _ (by first | (simp; done) | (simp; omega) | omega)]; all_goals (first | assumption | go_simp) }; have x3d : w9.cell? ⟨w.heap.size, 3, none⟩ = some (.int .i64 a) := by { rw [cellB hb9 _ _ (by first | (simp; done) | (simp; omega) | omega)]; all_goals (first | assumption | go_simp) }; have x4d : w9.cell? ⟨w.heap.size, 4, none⟩ = some (.int .i64 b) := by { rw [cellB hb9 _ _ (by first | (simp; done) | (simp; omega) | omega)]; all_goals (first | assumption | go_simp) }; have x5d : w9.cell? ⟨w.heap.size, 5, none⟩ = some (.int .i64 c) := by { rw [cellB hb9 _ _ (by first | (simp; done) | (simp; omega) | omega)]; all_goals (first | assumption | go_simp) }; have x6d : w9.cell? ⟨w.heap.size, 6, none⟩ = some (.int .i64 d) := by { rw [cellB hb9 _ _ (by first | (simp; done) | (simp; omega) | omega)]; all_goals (first | assumption | go_simp) }; have x7d : w9.cell? ⟨w.heap.size, 7, none⟩ = some (.slice ap n cp) := by { rw [cellB hb9 _ _ (by first | (simp; done) | (simp; omega) | omega)]; all_goals (first | assumption | go_simp) }; have h0d : w9.cell? ⟨w.heap.size + 1, 0, none⟩ = some (.int .i64 lo) := by { rw [cellB hb9 _ _ (by first | (simp; done) | (simp; omega) | omega)]; all_goals (first | assumption | go_simp) }; have h1d : w9.cell? ⟨w.heap.size + 1, 1, none⟩ = some (.int .i64 hi) := by { rw [cellB hb9 _ _ (by first | (simp; done) | (simp; omega) | omega)]; all_goals (first | assumption | go_simp) }; have lxd : w.heap.size < w9.heap.size := by { omega }; have lhd : w.heap.size + 1 < w9.heap.size := by { omega }
  have HB := Lib.hid (HB.out.trans (hb9.mono HB.out.size))
  clear x0 x1 x2 x3 x4 x5 x6 x7 h0 h1 lx lh hzx
  clear hb9
  go_wp2_with fail
  refine (HCG.out a9 c9 _ ht9).mono ?_
  rintro e8 wa ⟨rfl, hba⟩
  have hzx := hba.size
  have x0 : wa.cell? ⟨w.heap.size, 0, none⟩ = some (.string nm) := by { rw [cellB hba _ _ (by first | (simp; done) | (simp; omega) | omega)]; all_goals (first | assumption | go_simp) }; have x1 : wa.cell? ⟨w.heap.size, 1, none⟩ = some (.int .i64 per) := by { rw [cellB hba _ _ (by first | (simp; done) | (simp; omega) | omega)]; all_goals (first | assumption | go_simp) }; have x2 : wa.cell? ⟨w.heap.size, 2, none⟩ = some (.int .i64 least) := by { rw [cellB hba _ _ (by first | (simp; done) | (simp; omega) | omega)]; all_goals (first | assumption | go_simp) }; have x3 : wa.cell? ⟨w.heap.size, 3, none⟩ = some (.int .i64 a) := by { rw [cellB hba _ _ (by first | (simp; done) | (simp; omega) | omega)]; all_goals (first | assumption | go_simp) }; have x4 : wa.cell? ⟨w.heap.size, 4, none⟩ = some (.int .i64 b) := by { rw [cellB hba _ _ (by first | (simp; done) | (simp; omega) | omega)]; all_goals (first | assumption | go_simp) }; have x5 : wa.cell? ⟨w.heap.size, 5, none⟩ = some (.int .i64 c) := by { rw [cellB hba _ _ (by first | (simp; done) | (simp; omega) | omega)]; all_goals (first | assumption | go_simp) }; have x6 : wa.cell? ⟨w.heap.size, 6, none⟩ = some (.int .i64 d) := by { rw [cellB hba _ _ (by first | (simp; done) | (simp; omega) | omega)]; all_goals (first | assumption | go_simp) }; have x7 : wa.cell? ⟨w.heap.size, 7, none⟩ = some (.slice ap n cp) := by { rw [cellB hba _ _ (by first | (simp; done) | (simp; omega) | omega)]; all_goals (first | assumption | go_simp) }; have h0 : wa.cell? ⟨w.heap.size + 1, 0, none⟩ = some (.int .i64 lo) := by { rw [cellB hba _ _ (by first | (simp; done) | (simp; omega) | omega)]; all_goals (first | assumption | go_simp) }; have h1 : wa.cell? ⟨w.heap.size + 1, 1, none⟩ = some (.int .i64 hi) := by { rw [cellB hba _ _ (by first | (simp; done) | (simp; omega) | omega)]; all_goals (first | assumption | go_simp) }; have lx : w.heap.size < wa.heap.size := by { omega }; have lh : w.heap.size + 1 < wa.heap.size := by { omega }
  have HB := Lib.hid (HB.out.trans (hba.mono HB.out.size))
  clear x0d x1d x2d x3d x4d x5d x6d x7d h0d h1d lxd lhd hzx
  clear hba ht9 HCG HCS
  go_wp2_with fail
  generalize hW : World.alloc _ _ = wb
  have hbb : Below wa.heap.size wa wb := by rw [← hW]; (repeat' (first | (with_reducible exact Below.refl _ _) | (with_reducible assumption) | (with_reducible refine Below.drewN ?_ _) | (with_reducible refine Below.alloc ?_ ?_ _) | (with_reducible refine Below.drew ?_) | (with_reducible refine Below.setCell ?_ ?_ _) | (with_reducible refine Below.step (by assumption) ?_ ?_) | (with_reducible exact And.left (by assumption)) | go_size))
  have u0 : wb.cell? ⟨wa.heap.size, 0, none⟩ = some (.int .i64 c1) := by { rw [← hW]; clear hW; go_simp }
  have u1 : wb.cell? ⟨wa.heap.size, 1, none⟩ = some (.int .i64 c2) := by { rw [← hW]; clear hW; go_simp }
  have lu : wa.heap.size < wb.heap.size := by { rw [← hW]; clear hW; simp }
  have hzx := hbb.size
  have x0d : wb.cell? ⟨w.heap.size, 0, none⟩ = some (.string nm) := by { rw [cellB hbb _ _ (by first | (simp; done) | (simp; omega) | omega)]; all_goals (first | assumption | go_simp) }; have x1d : wb.cell? ⟨w.heap.size, 1, none⟩ = some (.int .i64 per) := by { rw [cellB hbb _ _ (by first | (simp; done) | (simp; omega) | omega)]; all_goals (first | assumption | go_simp) }; have x2d : wb.cell? ⟨w.heap.size, 2, none⟩ = some (.int .i64 least) := by { rw [cellB hbb _ _ (by first | (simp; done) | (simp; omega) | omega)]; all_goals (first | assumption | go_simp) }; have x3d : wb.cell? ⟨w.heap.size, 3, none⟩ = some (.int .i64 a) := by { rw [cellB hbb _ _ (by first | (simp; done) | (simp; omega) | omega)]; all_goals (first | assumption | go_simp) }; have x4d : wb.cell? ⟨w.heap.size, 4, none⟩ = some (.int .i64 b) := by { rw [cellB hbb _ _ (by first | (simp; done) | (simp; omega) | omega)]; all_goals (first | assumption | go_simp) }; have x5d : wb.cell? ⟨w.heap.size, 5, none⟩ = some (.int .i64 c) := by { rw [cellB hbb _ _ (by first | (simp; done) | (simp; omega) | omega)]; all_goals (first | assumption | go_simp) }; have x6d : wb.cell? ⟨w.heap.size, 6, none⟩ = some (.int .i64 d) := by { rw [cellB hbb _ _ (by first | (simp; done) | (simp; omega) | omega)]; all_goals (first | assumption | go_simp) }; have x7d : wb.cell? ⟨w.heap.size, 7, none⟩ = some (.slice ap n cp) := by { rw [cellB hbb _ _ (by first | (simp; done) | (simp; omega) | omega)]; all_goals (first | assumption | go_simp) }; have h0d : wb.cell? ⟨w.heap.size + 1, 0, none⟩ = some (.int .i64 lo) := by { rw [cellB hbb _ _ (by first | (simp; done) | (simp; omega) | omega)]; all_goals (first | assumption | go_simp) }; have h1d : wb.cell? ⟨w.heap.size + 1, 1, none⟩ = some (.int .i64 hi) := by { rw [cellB hbb _ _ (by first | (simp; done) | (simp; omega) | omega)]; all_goals (first | assumption | go_simp) }; have lxd : w.heap.size < wb.heap.size := by { omega }; have lhd : w.heap.size + 1 < wb.heap.size := by { omega }
  have HB := Lib.hid (HB.out.trans (hbb.mono HB.out.size))
  clear x0 x1 x2 x3 x4 x5 x6 x7 h0 h1 lx lh hzx
  obtain ⟨X9, hX9⟩ : ∃ X, X = wa.heap.size := ⟨_, rfl⟩
  rw [← hX9] at u0 u1 lu ⊢
  clear hW hbb hX9
  obtain ⟨u0d, u1d, lud⟩ : wb.cell? ⟨X9, 0, none⟩ = some (.int .i64 c1) ∧ wb.cell? ⟨X9, 1, none⟩ = some (.int .i64 c2) ∧ X9 < wb.heap.size := ⟨u0, u1, lu⟩
  clear u0 u1 lu
  obtain ⟨XU, hXU⟩ : ∃ X, X = X9 := ⟨_, rfl⟩
  rw [← hXU] at u0d u1d lud ⊢
  clear hXU
  go_cut [11, 12] from 41 to 47 (fun v11 v12 wx => ∃ X : Nat, v11 = .pointer (some ⟨X, 0, none⟩) ∧ v12 = .int .i64 g ∧ wx.cell? ⟨X, 0, none⟩ = some (.int .i64 k1) ∧ wx.cell? ⟨X, 1, none⟩ = some (.int .i64 k2) ∧ wx.cell? ⟨X, 2, none⟩ = some (.int .i64 k3) ∧ wx.cell? ⟨X, 3, none⟩ = some (.int .i64 k4) ∧ X < wx.heap.size ∧ Hid (Below wb.heap.size wb wx))
  case first =>
    have HN := Lib.hid (Below.refl wb.heap.size wb).drew
    refine wp_region_laterT (B := wb.heap.size) (.head 0 (.head 2 (.two 1 (.two 3 (.head 4 (.head 5 (.head 6 (.one 7 (.one 8 (.head 9 .done)))))) 7 (.one 3 (.head 4 (.head 5 (.head 6 (.one 8 (.head 9 .done))))))) 7 (.one 1 (.one 3 (.head 4 (.head 5 (.head 6 (.one 8 (.head 9 .done)))))))))) (by kernel_rfl) (by kernel_rfl) ?_
    repeat (refine tree_head rfl ?_; (show wpQuiet _ _ _ _ (_ :: _) _; go_big_quiet_step (fail)); refine wpQuiet_nil ?_)
    refine tree_two rfl rfl ?_ ?_
    · go_wp2_with fail
      refine (HCI.out _ (HB.out.trans (HN.out.mono HB.out.size))).mono ?_
      rintro ex wx1 ⟨a18, c18, rfl, hbx, hox⟩
      have HI1 := Lib.hid (show IntsR wx1 a18 m l from SlR.of_owns hox)
      clear hox
      have hzx := hbx.size
      have HN := Lib.hid (HN.out.trans (hbx.mono HN.out.size))
      clear hbx
      go_wp2_with fail
      refine tailL_mk HN.out ?_
      repeat (refine tree_head rfl ?_; (show wpQuiet _ _ _ _ (_ :: _) _; go_big_quiet_step (fail)); refine wpQuiet_nil ?_)
      refine tree_two rfl rfl ?_ ?_
      · go_wp2_with fail
        refine (HCAL.out a18 c18 _ HI1.out).mono ?_
        rintro ex wx2 ⟨rfl, hbx⟩
        have hzx := hbx.size
        have HN := Lib.hid (HN.out.trans (hbx.mono HN.out.size))
        have HI1 := Lib.hid (HI1.out.below hbx)
        clear hbx
        go_wp2_with fail
        refine tailL_mk HN.out ?_
        repeat (refine tree_head rfl ?_; (show wpQuiet _ _ _ _ (_ :: _) _; go_big_quiet_step (fail)); refine wpQuiet_nil ?_)
        refine tree_one rfl ?_
        go_wp2_with fail
        obtain ⟨X9, hX9⟩ : ∃ X, X = wx2.heap.size := ⟨_, rfl⟩
        have hNX : wb.heap.size ≤ X9 := by rw [hX9]; exact HN.out.size
        have hx9 : (wx2.alloc (Obj.cells #[.int .i64 0, .int .i64 0, .int .i64 0, .int .i64 0] 53)).heap[X9]? = some (.cells #[.int .i64 0, .int .i64 0, .int .i64 0, .int .i64 0] 53) := by rw [hX9]; exact heap_alloc_new _ _
        have l9 : X9 < (wx2.alloc (Obj.cells #[.int .i64 0, .int .i64 0, .int .i64 0, .int .i64 0] 53)).heap.size := by rw [hX9]; simp
        have hs9 : (wx2.alloc (Obj.cells #[.int .i64 0, .int .i64 0, .int .i64 0, .int .i64 0] 53)).heap.size = wx2.heap.size + 1 := by simp
        have hbx : Below wx2.heap.size wx2 (wx2.alloc (Obj.cells #[.int .i64 0, .int .i64 0, .int .i64 0, .int .i64 0] 53)) := by (repeat' (first | (with_reducible exact Below.refl _ _) | (with_reducible assumption) | (with_reducible refine Below.drewN ?_ _) | (with_reducible refine Below.alloc ?_ ?_ _) | (with_reducible refine Below.drew ?_) | (with_reducible refine Below.setCell ?_ ?_ _) | (with_reducible refine Below.step (by assumption) ?_ ?_) | (with_reducible exact And.left (by assumption)) | go_size))
        try simp only [← hX9]
        generalize (wx2.alloc (Obj.cells #[.int .i64 0, .int .i64 0, .int .i64 0, .int .i64 0] 53)) = wx3 at *
        have HX9 := Lib.hid (And.intro hX9 hs9)
        have HN := Lib.hid (HN.out.trans (hbx.mono HN.out.size))
        have HI1 := Lib.hid (HI1.out.below hbx)
        clear hbx hX9 hs9
        refine tailL_mk HN.out ?_
        repeat (refine tree_head rfl ?_; (show wpQuiet _ _ _ _ (_ :: _) _; go_big_quiet_step (fail)); refine wpQuiet_nil ?_)
        refine tree_one rfl ?_
        have c90 := cell_of_row _ _ 0 _ _ _ hx9
        have f90 := frozen_of_row _ _ 0 _ _ hx9
        have c91 := cell_of_row _ _ 1 _ _ _ hx9
        have f91 := frozen_of_row _ _ 1 _ _ hx9
        have c92 := cell_of_row _ _ 2 _ _ _ hx9
        have f92 := frozen_of_row _ _ 2 _ _ hx9
        have c93 := cell_of_row _ _ 3 _ _ _ hx9
        have f93 := frozen_of_row _ _ 3 _ _ hx9
        simp only [List.getElem?_toArray, List.getElem?_cons_zero, List.getElem?_cons_succ] at c90 c91 c92 c93
        go_wp2_with fail
        have HN := Lib.hid (show Below wb.heap.size wb ((((wx3.setCell ⟨X9, 0, none⟩ (.int .i64 k1)).setCell ⟨X9, 1, none⟩ (.int .i64 k2)).setCell ⟨X9, 2, none⟩ (.int .i64 k3)).setCell ⟨X9, 3, none⟩ (.int .i64 k4)) from Below.setCell (Below.setCell (Below.setCell (Below.setCell (HN.out) hNX _) hNX _) hNX _) hNX _)
        have hxo := hx9
        have hx9 : ((((wx3.setCell ⟨X9, 0, none⟩ (.int .i64 k1)).setCell ⟨X9, 1, none⟩ (.int .i64 k2)).setCell ⟨X9, 2, none⟩ (.int .i64 k3)).setCell ⟨X9, 3, none⟩ (.int .i64 k4)).heap[X9]? = some (.cells #[.int .i64 k1, .int .i64 k2, .int .i64 k3, .int .i64 k4] 53) := blk_set (blk_set (blk_set (blk_set (hx9) 0 (.int .i64 k1)) 1 (.int .i64 k2)) 2 (.int .i64 k3)) 3 (.int .i64 k4)
        refine tailL_mk HN.out ?_
        repeat (refine tree_head rfl ?_; (show wpQuiet _ _ _ _ (_ :: _) _; go_big_quiet_step (fail)); refine wpQuiet_nil ?_)
        refine tree_done ?_
        go_wp2_with fail
        go_meet
        case rel => exact ⟨X9, rfl, rfl, by go_simp, by go_simp, by go_simp, by go_simp, by simpa using l9, HN⟩
      · go_wp2_with fail
        obtain ⟨X9, hX9⟩ : ∃ X, X = wx1.heap.size := ⟨_, rfl⟩
        have hNX : wb.heap.size ≤ X9 := by rw [hX9]; exact HN.out.size
        have hx9 : (wx1.alloc (Obj.cells #[.int .i64 0, .int .i64 0, .int .i64 0, .int .i64 0] 53)).heap[X9]? = some (.cells #[.int .i64 0, .int .i64 0, .int .i64 0, .int .i64 0] 53) := by rw [hX9]; exact heap_alloc_new _ _
        have l9 : X9 < (wx1.alloc (Obj.cells #[.int .i64 0, .int .i64 0, .int .i64 0, .int .i64 0] 53)).heap.size := by rw [hX9]; simp
        have hs9 : (wx1.alloc (Obj.cells #[.int .i64 0, .int .i64 0, .int .i64 0, .int .i64 0] 53)).heap.size = wx1.heap.size + 1 := by simp
        have hbx : Below wx1.heap.size wx1 (wx1.alloc (Obj.cells #[.int .i64 0, .int .i64 0, .int .i64 0, .int .i64 0] 53)) := by (repeat' (first | (with_reducible exact Below.refl _ _) | (with_reducible assumption) | (with_reducible refine Below.drewN ?_ _) | (with_reducible refine Below.alloc ?_ ?_ _) | (with_reducible refine Below.drew ?_) | (with_reducible refine Below.setCell ?_ ?_ _) | (with_reducible refine Below.step (by assumption) ?_ ?_) | (with_reducible exact And.left (by assumption)) | go_size))
        try simp only [← hX9]
        generalize (wx1.alloc (Obj.cells #[.int .i64 0, .int .i64 0, .int .i64 0, .int .i64 0] 53)) = wx5 at *
        have HX9 := Lib.hid (And.intro hX9 hs9)
        have HN := Lib.hid (HN.out.trans (hbx.mono HN.out.size))
        have HI1 := Lib.hid (HI1.out.below hbx)
        clear hbx hX9 hs9
        refine tailL_mk HN.out ?_
        repeat (refine tree_head rfl ?_; (show wpQuiet _ _ _ _ (_ :: _) _; go_big_quiet_step (fail)); refine wpQuiet_nil ?_)
        refine tree_one rfl ?_
        go_wp2_with fail
        refine (HCAL.out a18 c18 _ HI1.out).mono ?_
        rintro ex wx6 ⟨rfl, hbx⟩
        have hzx := hbx.size
        have HN := Lib.hid (HN.out.trans (hbx.mono HN.out.size))
        have HI1 := Lib.hid (HI1.out.below hbx)
        have hx9 := (hbx.block X9 l9).trans hx9
        have l9 := Nat.lt_of_lt_of_le l9 hbx.size
        clear hbx
        go_wp2_with fail
        refine tailL_mk HN.out ?_
        repeat (refine tree_head rfl ?_; (show wpQuiet _ _ _ _ (_ :: _) _; go_big_quiet_step (fail)); refine wpQuiet_nil ?_)
        refine tree_one rfl ?_
        have c90 := cell_of_row _ _ 0 _ _ _ hx9
        have f90 := frozen_of_row _ _ 0 _ _ hx9
        have c91 := cell_of_row _ _ 1 _ _ _ hx9
        have f91 := frozen_of_row _ _ 1 _ _ hx9
        have c92 := cell_of_row _ _ 2 _ _ _ hx9
        have f92 := frozen_of_row _ _ 2 _ _ hx9
        have c93 := cell_of_row _ _ 3 _ _ _ hx9
        have f93 := frozen_of_row _ _ 3 _ _ hx9
        simp only [List.getElem?_toArray, List.getElem?_cons_zero, List.getElem?_cons_succ] at c90 c91 c92 c93
        go_wp2_with fail
        have HN := Lib.hid (show Below wb.heap.size wb ((((wx6.setCell ⟨X9, 0, none⟩ (.int .i64 k1)).setCell ⟨X9, 1, none⟩ (.int .i64 k2)).setCell ⟨X9, 2, none⟩ (.int .i64 k3)).setCell ⟨X9, 3, none⟩ (.int .i64 k4)) from Below.setCell (Below.setCell (Below.setCell (Below.setCell (HN.out) hNX _) hNX _) hNX _) hNX _)
        have hxo := hx9
        have hx9 : ((((wx6.setCell ⟨X9, 0, none⟩ (.int .i64 k1)).setCell ⟨X9, 1, none⟩ (.int .i64 k2)).setCell ⟨X9, 2, none⟩ (.int .i64 k3)).setCell ⟨X9, 3, none⟩ (.int .i64 k4)).heap[X9]? = some (.cells #[.int .i64 k1, .int .i64 k2, .int .i64 k3, .int .i64 k4] 53) := blk_set (blk_set (blk_set (blk_set (hx9) 0 (.int .i64 k1)) 1 (.int .i64 k2)) 2 (.int .i64 k3)) 3 (.int .i64 k4)
        refine tailL_mk HN.out ?_
        repeat (refine tree_head rfl ?_; (show wpQuiet _ _ _ _ (_ :: _) _; go_big_quiet_step (fail)); refine wpQuiet_nil ?_)
        refine tree_done ?_
        go_wp2_with fail
        go_meet
        case rel => exact ⟨X9, rfl, rfl, by go_simp, by go_simp, by go_simp, by go_simp, by simpa using l9, HN⟩
    · go_wp2_with fail
      obtain ⟨X9, hX9⟩ : ∃ X, X = wb.heap.size := ⟨_, rfl⟩
      have hNX : wb.heap.size ≤ X9 := by rw [hX9]; exact HN.out.size
      have hx9 : (wb.alloc (Obj.cells #[.int .i64 0, .int .i64 0, .int .i64 0, .int .i64 0] 53)).drew.heap[X9]? = some (.cells #[.int .i64 0, .int .i64 0, .int .i64 0, .int .i64 0] 53) := by rw [hX9]; exact heap_alloc_new _ _
      have l9 : X9 < (wb.alloc (Obj.cells #[.int .i64 0, .int .i64 0, .int .i64 0, .int .i64 0] 53)).drew.heap.size := by rw [hX9]; simp
      have hs9 : (wb.alloc (Obj.cells #[.int .i64 0, .int .i64 0, .int .i64 0, .int .i64 0] 53)).drew.heap.size = wb.heap.size + 1 := by simp
      have hbx : Below wb.heap.size wb (wb.alloc (Obj.cells #[.int .i64 0, .int .i64 0, .int .i64 0, .int .i64 0] 53)).drew := by (repeat' (first | (with_reducible exact Below.refl _ _) | (with_reducible assumption) | (with_reducible refine Below.drewN ?_ _) | (with_reducible refine Below.alloc ?_ ?_ _) | (with_reducible refine Below.drew ?_) | (with_reducible refine Below.setCell ?_ ?_ _) | (with_reducible refine Below.step (by assumption) ?_ ?_) | (with_reducible exact And.left (by assumption)) | go_size))
      try simp only [← hX9]
      generalize (wb.alloc (Obj.cells #[.int .i64 0, .int .i64 0, .int .i64 0, .int .i64 0] 53)).drew = wx8 at *
      have HX9 := Lib.hid (And.intro hX9 hs9)
      have HN := Lib.hid hbx
      clear hbx hX9 hs9
      refine tailL_mk HN.out ?_
      repeat (refine tree_head rfl ?_; (show wpQuiet _ _ _ _ (_ :: _) _; go_big_quiet_step (fail)); refine wpQuiet_nil ?_)
      refine tree_one rfl ?_
      go_wp2_with fail
      refine (HCI.out _ (HB.out.trans (HN.out.mono HB.out.size))).mono ?_
      rintro ex wx9 ⟨a18, c18, rfl, hbx, hox⟩
      have HI1 := Lib.hid (show IntsR wx9 a18 m l from SlR.of_owns hox)
      clear hox
      have hzx := hbx.size
      have HN := Lib.hid (HN.out.trans (hbx.mono HN.out.size))
      have hx9 := (hbx.block X9 l9).trans hx9
      have l9 := Nat.lt_of_lt_of_le l9 hbx.size
      clear hbx
      go_wp2_with fail
      refine tailL_mk HN.out ?_
      repeat (refine tree_head rfl ?_; (show wpQuiet _ _ _ _ (_ :: _) _; go_big_quiet_step (fail)); refine wpQuiet_nil ?_)
      refine tree_one rfl ?_
      go_wp2_with fail
      refine (HCAL.out a18 c18 _ HI1.out).mono ?_
      rintro ex wx10 ⟨rfl, hbx⟩
      have hzx := hbx.size
      have HN := Lib.hid (HN.out.trans (hbx.mono HN.out.size))
      have HI1 := Lib.hid (HI1.out.below hbx)
      have hx9 := (hbx.block X9 l9).trans hx9
      have l9 := Nat.lt_of_lt_of_le l9 hbx.size
      clear hbx
      go_wp2_with fail
      refine tailL_mk HN.out ?_
      repeat (refine tree_head rfl ?_; (show wpQuiet _ _ _ _ (_ :: _) _; go_big_quiet_step (fail)); refine wpQuiet_nil ?_)
      refine tree_one rfl ?_
      have c90 := cell_of_row _ _ 0 _ _ _ hx9
      have f90 := frozen_of_row _ _ 0 _ _ hx9
      have c91 := cell_of_row _ _ 1 _ _ _ hx9
      have f91 := frozen_of_row _ _ 1 _ _ hx9
      have c92 := cell_of_row _ _ 2 _ _ _ hx9
      have f92 := frozen_of_row _ _ 2 _ _ hx9
      have c93 := cell_of_row _ _ 3 _ _ _ hx9
      have f93 := frozen_of_row _ _ 3 _ _ hx9
      simp only [List.getElem?_toArray, List.getElem?_cons_zero, List.getElem?_cons_succ] at c90 c91 c92 c93
      go_wp2_with fail
      have HN := Lib.hid (show Below wb.heap.size wb ((((wx10.setCell ⟨X9, 0, none⟩ (.int .i64 k1)).setCell ⟨X9, 1, none⟩ (.int .i64 k2)).setCell ⟨X9, 2, none⟩ (.int .i64 k3)).setCell ⟨X9, 3, none⟩ (.int .i64 k4)) from Below.setCell (Below.setCell (Below.setCell (Below.setCell (HN.out) hNX _) hNX _) hNX _) hNX _)
      have hxo := hx9
      have hx9 : ((((wx10.setCell ⟨X9, 0, none⟩ (.int .i64 k1)).setCell ⟨X9, 1, none⟩ (.int .i64 k2)).setCell ⟨X9, 2, none⟩ (.int .i64 k3)).setCell ⟨X9, 3, none⟩ (.int .i64 k4)).heap[X9]? = some (.cells #[.int .i64 k1, .int .i64 k2, .int .i64 k3, .int .i64 k4] 53) := blk_set (blk_set (blk_set (blk_set (hx9) 0 (.int .i64 k1)) 1 (.int .i64 k2)) 2 (.int .i64 k3)) 3 (.int .i64 k4)
      refine tailL_mk HN.out ?_
      repeat (refine tree_head rfl ?_; (show wpQuiet _ _ _ _ (_ :: _) _; go_big_quiet_step (fail)); refine wpQuiet_nil ?_)
      refine tree_done ?_
      go_wp2_with fail
      go_meet
      case rel => exact ⟨X9, rfl, rfl, by go_simp, by go_simp, by go_simp, by go_simp, by simpa using l9, HN⟩
  case rest =>
    obtain ⟨wd, rfl⟩ : ∃ w', w' = wc := ⟨wc, rfl⟩
    obtain ⟨X11, rfl, rfl, t0, t1, t2, t3, lt, hN⟩ := hcut
    obtain ⟨X9, rfl⟩ : ∃ X, X = XU := ⟨_, rfl⟩
    have hbx := hN.out
    have hzx := hbx.size
    have x0 : wd.cell? ⟨w.heap.size, 0, none⟩ = some (.string nm) := by { rw [cellB hbx _ _ (by first | (simp; done) | (simp; omega) | omega)]; all_goals (first | assumption | go_simp) }; have x1 : wd.cell? ⟨w.heap.size, 1, none⟩ = some (.int .i64 per) := by { rw [cellB hbx _ _ (by first | (simp; done) | (simp; omega) | omega)]; all_goals (first | assumption | go_simp) }; have x2 : wd.cell? ⟨w.heap.size, 2, none⟩ = some (.int .i64 least) := by { rw [cellB hbx _ _ (by first | (simp; done) | (simp; omega) | omega)]; all_goals (first | assumption | go_simp) }; have x3 : wd.cell? ⟨w.heap.size, 3, none⟩ = some (.int .i64 a) := by { rw [cellB hbx _ _ (by first | (simp; done) | (simp; omega) | omega)]; all_goals (first | assumption | go_simp) }; have x4 : wd.cell? ⟨w.heap.size, 4, none⟩ = some (.int .i64 b) := by { rw [cellB hbx _ _ (by first | (simp; done) | (simp; omega) | omega)]; all_goals (first | assumption | go_simp) }; have x5 : wd.cell? ⟨w.heap.size, 5, none⟩ = some (.int .i64 c) := by { rw [cellB hbx _ _ (by first | (simp; done) | (simp; omega) | omega)]; all_goals (first | assumption | go_simp) }; have x6 : wd.cell? ⟨w.heap.size, 6, none⟩ = some (.int .i64 d) := by { rw [cellB hbx _ _ (by first | (simp; done) | (simp; omega) | omega)]; all_goals (first | assumption | go_simp) }; have x7 : wd.cell? ⟨w.heap.size, 7, none⟩ = some (.slice ap n cp) := by { rw [cellB hbx _ _ (by first | (simp; done) | (simp; omega) | omega)]; all_goals (first | assumption | go_simp) }; have h0 : wd.cell? ⟨w.heap.size + 1, 0, none⟩ = some (.int .i64 lo) := by { rw [cellB hbx _ _ (by first | (simp; done) | (simp; omega) | omega)]; all_goals (first | assumption | go_simp) }; have h1 : wd.cell? ⟨w.heap.size + 1, 1, none⟩ = some (.int .i64 hi) := by { rw [cellB hbx _ _ (by first | (simp; done) | (simp; omega) | omega)]; all_goals (first | assumption | go_simp) }; have u0 : wd.cell? ⟨X9, 0, none⟩ = some (.int .i64 c1) := by { rw [cellB hbx _ _ (by first | (simp; done) | (simp; omega) | omega)]; all_goals (first | assumption | go_simp) }; have u1 : wd.cell? ⟨X9, 1, none⟩ = some (.int .i64 c2) := by { rw [cellB hbx _ _ (by first | (simp; done) | (simp; omega) | omega)]; all_goals (first | assumption | go_simp) }; have lx : w.heap.size < wd.heap.size := by { omega }; have lh : w.heap.size + 1 < wd.heap.size := by { omega }; have lu : X9 < wd.heap.size := by { omega }
    have HB := Lib.hid (HB.out.trans (hbx.mono HB.out.size))
    clear x0d x1d x2d x3d x4d x5d x6d x7d h0d h1d u0d u1d lxd lhd lud hzx
    clear hbx hN HCI HCAL
    go_wp2_with fail
    refine (HRG.out _ HB.out).mono ?_
    rintro e8 we ⟨rfl, hbe⟩
    have hzx := hbe.size
    have x0d : we.cell? ⟨w.heap.size, 0, none⟩ = some (.string nm) := by { rw [cellB hbe _ _ (by first | (simp; done) | (simp; omega) | omega)]; all_goals (first | assumption | go_simp) }; have x1d : we.cell? ⟨w.heap.size, 1, none⟩ = some (.int .i64 per) := by { rw [cellB hbe _ _ (by first | (simp; done) | (simp; omega) | omega)]; all_goals (first | assumption | go_simp) }; have x2d : we.cell? ⟨w.heap.size, 2, none⟩ = some (.int .i64 least) := by { rw [cellB hbe _ _ (by first | (simp; done) | (simp; omega) | omega)]; all_goals (first | assumption | go_simp) }; have x3d : we.cell? ⟨w.heap.size, 3, none⟩ = some (.int .i64 a) := by { rw [cellB hbe _ _ (by first | (simp; done) | (simp; omega) | omega)]; all_goals (first | assumption | go_simp) }; have x4d : we.cell? ⟨w.heap.size, 4, none⟩ = some (.int .i64 b) := by { rw [cellB hbe _ _ (by first | (simp; done) | (simp; omega) | omega)]; all_goals (first | assumption | go_simp) }; have x5d : we.cell? ⟨w.heap.size, 5, none⟩ = some (.int .i64 c) := by { rw [cellB hbe _ _ (by first | (simp; done) | (simp; omega) | omega)]; all_goals (first | assumption | go_simp) }; have x6d : we.cell? ⟨w.heap.size, 6, none⟩ = some (.int .i64 d) := by { rw [cellB hbe _ _ (by first | (simp; done) | (simp; omega) | omega)]; all_goals (first | assumption | go_simp) }; have x7d : we.cell? ⟨w.heap.size, 7, none⟩ = some (.slice ap n cp) := by { rw [cellB hbe _ _ (by first | (simp; done) | (simp; omega) | omega)]; all_goals (first | assumption | go_simp) }; have h0d : we.cell? ⟨w.heap.size + 1, 0, none⟩ = some (.int .i64 lo) := by { rw [cellB hbe _ _ (by first | (simp; done) | (simp; omega) | omega)]; all_goals (first | assumption | go_simp) }; have h1d : we.cell? ⟨w.heap.size + 1, 1, none⟩ = some (.int .i64 hi) := by { rw [cellB hbe _ _ (by first | (simp; done) | (simp; omega) | omega)]; all_goals (first | assumption | go_simp) }; have u0d : we.cell? ⟨X9, 0, none⟩ = some (.int .i64 c1) := by { rw [cellB hbe _ _ (by first | (simp; done) | (simp; omega) | omega)]; all_goals (first | assumption | go_simp) }; have u1d : we.cell? ⟨X9, 1, none⟩ = some (.int .i64 c2) := by { rw [cellB hbe _ _ (by first | (simp; done) | (simp; omega) | omega)]; all_goals (first | assumption | go_simp) }; have t0d : we.cell? ⟨X11, 0, none⟩ = some (.int .i64 k1) := by { rw [cellB hbe _ _ (by first | (simp; done) | (simp; omega) | omega)]; all_goals (first | assumption | go_simp) }; have t1d : we.cell? ⟨X11, 1, none⟩ = some (.int .i64 k2) := by { rw [cellB hbe _ _ (by first | (simp; done) | (simp; omega) | omega)]; all_goals (first | assumption | go_simp) }; have t2d : we.cell? ⟨X11, 2, none⟩ = some (.int .i64 k3) := by { rw [cellB hbe _ _ (by first | (simp; done) | (simp; omega) | omega)]; all_goals (first | assumption | go_simp) }; have t3d : we.cell? ⟨X11, 3, none⟩ = some (.int .i64 k4) := by { rw [cellB hbe _ _ (by first | (simp; done) | (simp; omega) | omega)]; all_goals (first | assumption | go_simp) }; have lxd : w.heap.size < we.heap.size := by { omega }; have lhd : w.heap.size + 1 < we.heap.size := by { omega }; have lud : X9 < we.heap.size := by { omega }; have ltd : X11 < we.heap.size := by { omega }
    have HB := Lib.hid (HB.out.trans (hbe.mono HB.out.size))
    clear x0 x1 x2 x3 x4 x5 x6 x7 h0 h1 u0 u1 t0 t1 t2 t3 lx lh lu lt hzx
    clear hbe HRG
    go_wp2_with fail
    generalize hW : World.alloc _ _ = wf
    have hbf : Below we.heap.size we wf := by rw [← hW]; (repeat' (first | (with_reducible exact Below.refl _ _) | (with_reducible assumption) | (with_reducible refine Below.drewN ?_ _) | (with_reducible refine Below.alloc ?_ ?_ _) | (with_reducible refine Below.drew ?_) | (with_reducible refine Below.setCell ?_ ?_ _) | (with_reducible refine Below.step (by assumption) ?_ ?_) | (with_reducible exact And.left (by assumption)) | go_size))
    have v0 : wf.cell? ⟨we.heap.size, 0, none⟩ = some (.int .i64 c1) := by { rw [← hW]; clear hW; go_simp }
    have v1 : wf.cell? ⟨we.heap.size, 1, none⟩ = some (.int .i64 c2) := by { rw [← hW]; clear hW; go_simp }
    have lv : we.heap.size < wf.heap.size := by { rw [← hW]; clear hW; simp }
    have hzx := hbf.size
    have x0 : wf.cell? ⟨w.heap.size, 0, none⟩ = some (.string nm) := by { rw [cellB hbf _ _ (by first | (simp; done) | (simp; omega) | omega)]; all_goals (first | assumption | go_simp) }; have x1 : wf.cell? ⟨w.heap.size, 1, none⟩ = some (.int .i64 per) := by { rw [cellB hbf _ _ (by first | (simp; done) | (simp; omega) | omega)]; all_goals (first | assumption | go_simp) }; have x2 : wf.cell? ⟨w.heap.size, 2, none⟩ = some (.int .i64 least) := by { rw [cellB hbf _ _ (by first | (simp; done) | (simp; omega) | omega)]; all_goals (first | assumption | go_simp) }; have x3 : wf.cell? ⟨w.heap.size, 3, none⟩ = some (.int .i64 a) := by { rw [cellB hbf _ _ (by first | (simp; done) | (simp; omega) | omega)]; all_goals (first | assumption | go_simp) }; have x4 : wf.cell? ⟨w.heap.size, 4, none⟩ = some (.int .i64 b) := by { rw [cellB hbf _ _ (by first | (simp; done) | (simp; omega) | omega)]; all_goals (first | assumption | go_simp) }; have x5 : wf.cell? ⟨w.heap.size, 5, none⟩ = some (.int .i64 c) := by { rw [cellB hbf _ _ (by first | (simp; done) | (simp; omega) | omega)]; all_goals (first | assumption | go_simp) }; have x6 : wf.cell? ⟨w.heap.size, 6, none⟩ = some (.int .i64 d) := by { rw [cellB hbf _ _ (by first | (simp; done) | (simp; omega) | omega)]; all_goals (first | assumption | go_simp) }; have x7 : wf.cell? ⟨w.heap.size, 7, none⟩ = some (.slice ap n cp) := by { rw [cellB hbf _ _ (by first | (simp; done) | (simp; omega) | omega)]; all_goals (first | assumption | go_simp) }; have h0 : wf.cell? ⟨w.heap.size + 1, 0, none⟩ = some (.int .i64 lo) := by { rw [cellB hbf _ _ (by first | (simp; done) | (simp; omega) | omega)]; all_goals (first | assumption | go_simp) }; have h1 : wf.cell? ⟨w.heap.size + 1, 1, none⟩ = some (.int .i64 hi) := by { rw [cellB hbf _ _ (by first | (simp; done) | (simp; omega) | omega)]; all_goals (first | assumption | go_simp) }; have u0 : wf.cell? ⟨X9, 0, none⟩ = some (.int .i64 c1) := by { rw [cellB hbf _ _ (by first | (simp; done) | (simp; omega) | omega)]; all_goals (first | assumption | go_simp) }; have u1 : wf.cell? ⟨X9, 1, none⟩ = some (.int .i64 c2) := by { rw [cellB hbf _ _ (by first | (simp; done) | (simp; omega) | omega)]; all_goals (first | assumption | go_simp) }; have t0 : wf.cell? ⟨X11, 0, none⟩ = some (.int .i64 k1) := by { rw [cellB hbf _ _ (by first | (simp; done) | (simp; omega) | omega)]; all_goals (first | assumption | go_simp) }; have t1 : wf.cell? ⟨X11, 1, none⟩ = some (.int .i64 k2) := by { rw [cellB hbf _ _ (by first | (simp; done) | (simp; omega) | omega)]; all_goals (first | assumption | go_simp) }; have t2 : wf.cell? ⟨X11, 2, none⟩ = some (.int .i64 k3) := by { rw [cellB hbf _ _ (by first | (simp; done) | (simp; omega) | omega)]; all_goals (first | assumption | go_simp) }; have t3 : wf.cell? ⟨X11, 3, none⟩ = some (.int .i64 k4) := by { rw [cellB hbf _ _ (by first | (simp; done) | (simp; omega) | omega)]; all_goals (first | assumption | go_simp) }; have lx : w.heap.size < wf.heap.size := by { omega }; have lh : w.heap.size + 1 < wf.heap.size := by { omega }; have lu : X9 < wf.heap.size := by { omega }; have lt : X11 < wf.heap.size := by { omega }
    have HB := Lib.hid (HB.out.trans (hbf.mono HB.out.size))
    clear x0d x1d x2d x3d x4d x5d x6d x7d h0d h1d u0d u1d t0d t1d t2d t3d lxd lhd lud ltd hzx
    obtain ⟨X13, hX13⟩ : ∃ X, X = we.heap.size := ⟨_, rfl⟩
    rw [← hX13] at v0 v1 lv ⊢
    clear hW hbf hX13
    refine (HRC.out _ HB.out).mono ?_
    rintro e8 wg ⟨rfl, hbg⟩
    have hzx := hbg.size
    have x0d : wg.cell? ⟨w.heap.size, 0, none⟩ = some (.string nm) := by { rw [cellB hbg _ _ (by first | (simp; done) | (simp; omega) | omega)]; all_goals (first | assumption | go_simp) }; have x1d : wg.cell? ⟨w.heap.size, 1, none⟩ = some (.int .i64 per) := by { rw [cellB hbg _ _ (by first | (simp; done) | (simp; omega) | omega)]; all_goals (first | assumption | go_simp) }; have x2d : wg.cell? ⟨w.heap.size, 2, none⟩ = some (.int .i64 least) := by { rw [cellB hbg _ _ (by first | (simp; done) | (simp; omega) | omega)]; all_goals (first | assumption | go_simp) }; have x3d : wg.cell? ⟨w.heap.size, 3, none⟩ = some (.int .i64 a) := by { rw [cellB hbg _ _ (by first | (simp; done) | (simp; omega) | omega)]; all_goals (first | assumption | go_simp) }; have x4d : wg.cell? ⟨w.heap.size, 4, none⟩ = some (.int .i64 b) := by { rw [cellB hbg _ _ (by first | (simp; done) | (simp; omega) | omega)]; all_goals (first | assumption | go_simp) }; have x5d : wg.cell? ⟨w.heap.size, 5, none⟩ = some (.int .i64 c) := by { rw [cellB hbg _ _ (by first | (simp; done) | (simp; omega) | omega)]; all_goals (first | assumption | go_simp) }; have x6d : wg.cell? ⟨w.heap.size, 6, none⟩ = some (.int .i64 d) := by { rw [cellB hbg _ _ (by first | (simp; done) | (simp; omega) | omega)]; all_goals (first | assumption | go_simp) }; have x7d : wg.cell? ⟨w.heap.size, 7, none⟩ = some (.slice ap n cp) := by { rw [cellB hbg _ _ (by first | (simp; done) | (simp; omega) | omega)]; all_goals (first | assumption | go_simp) }; have h0d : wg.cell? ⟨w.heap.size + 1, 0, none⟩ = some (.int .i64 lo) := by { rw [cellB hbg _ _ (by first | (simp; done) | (simp; omega) | omega)]; all_goals (first | assumption | go_simp) }; have h1d : wg.cell? ⟨w.heap.size + 1, 1, none⟩ = some (.int .i64 hi) := by { rw [cellB hbg _ _ (by first | (simp; done) | (simp; omega) | omega)]; all_goals (first | assumption | go_simp) }; have u0d : wg.cell? ⟨X9, 0, none⟩ = some (.int .i64 c1) := by { rw [cellB hbg _ _ (by first | (simp; done) | (simp; omega) | omega)]; all_goals (first | assumption | go_simp) }; have u1d : wg.cell? ⟨X9, 1, none⟩ = some (.int .i64 c2) := by { rw [cellB hbg _ _ (by first | (simp; done) | (simp; omega) | omega)]; all_goals (first | assumption | go_simp) }; have t0d : wg.cell? ⟨X11, 0, none⟩ = some (.int .i64 k1) := by { rw [cellB hbg _ _ (by first | (simp; done) | (simp; omega) | omega)]; all_goals (first | assumption | go_simp) }; have t1d : wg.cell? ⟨X11, 1, none⟩ = some (.int .i64 k2) := by { rw [cellB hbg _ _ (by first | (simp; done) | (simp; omega) | omega)]; all_goals (first | assumption | go_simp) }; have t2d : wg.cell? ⟨X11, 2, none⟩ = some (.int .i64 k3) := by { rw [cellB hbg _ _ (by first | (simp; done) | (simp; omega) | omega)]; all_goals (first | assumption | go_simp) }; have t3d : wg.cell? ⟨X11, 3, none⟩ = some (.int .i64 k4) := by { rw [cellB hbg _ _ (by first | (simp; done) | (simp; omega) | omega)]; all_goals (first | assumption | go_simp) }; have v0d : wg.cell? ⟨X13, 0, none⟩ = some (.int .i64 c1) := by { rw [cellB hbg _ _ (by first | (simp; done) | (simp; omega) | omega)]; all_goals (first | assumption | go_simp) }; have v1d : wg.cell? ⟨X13, 1, none⟩ = some (.int .i64 c2) := by { rw [cellB hbg _ _ (by first | (simp; done) | (simp; omega) | omega)]; all_goals (first | assumption | go_simp) }; have lxd : w.heap.size < wg.heap.size := by { omega }; have lhd : w.heap.size + 1 < wg.heap.size := by { omega }; have lud : X9 < wg.heap.size := by { omega }; have ltd : X11 < wg.heap.size := by { omega }; have lvd : X13 < wg.heap.size := by { omega }
    have HB := Lib.hid (HB.out.trans (hbg.mono HB.out.size))
    clear x0 x1 x2 x3 x4 x5 x6 x7 h0 h1 u0 u1 t0 t1 t2 t3 v0 v1 lx lh lu lt lv hzx
    clear hbg HRC
    by_cases hf : f = 0
    · have HRLa := Lib.hid (HRL.out hf)
      subst hf
      clear HRL HZ
      go_wp2_with fail
      have hbi := HB.out.alloc HB.out.size (Obj.cells #[.int .i64 k1, .int .i64 k2, .int .i64 k3, .int .i64 k4] 53)
      refine (HRLa.out _ hbi).mono ?_
      rintro e9 wi ⟨rfl, hbj⟩
      have HBI := Lib.hid (hbi.trans (hbj.mono hbi.size))
      clear hbi hbj
      go_wp2
      go_ret
      exact ⟨ret_bool (by simp), HBI.out⟩
    · have sf := bne_iff_ne.2 hf
      obtain rfl := HZ.out hf
      clear hf HRL
      go_wp2
      go_ret
      exact ⟨ret_bool (by simp), HB.out.alloc HB.out.size _⟩
theorem chg_walk (s : Ser) (ap : Option Addr) (n cp : Nat) (l : List Int) (ar : Option Addr) (m cm : Nat) (lo hi : Int) (w : World) (hw : SerW s) (hs : T3R w ap n s.l) (hl : IntsR w ar m l) :
    Calls Tryz.prog 4 #[.agg #[.string s.nm, .int .i64 s.per, .int .i64 s.least, .int .i64 s.a, .int .i64 s.b, .int .i64 s.c, .int .i64 s.d, .slice ap n cp], .slice ar m cm, .agg #[.int .i64 lo, .int .i64 hi]] w fun e' w' => e' = .returned (.bool true) ∧ Below w.heap.size w w' := by
  by_cases h : (n ≤ 64 ∧ s.nm.size ≤ 30) ∧ m ≤ 64
  · exact chg_main s l lo hi ap ar n cp m cm w hw hs hl h.1.1 h.1.2 h.2
  · exact chg_few s l lo hi ap ar n cp m cm w hw hs hl h
end Go.Proofs.YthkekjgdknnaiaaGreat
