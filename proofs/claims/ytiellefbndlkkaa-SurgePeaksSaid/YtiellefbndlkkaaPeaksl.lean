/- The statement SurgePeaks: the walk. -/
import Derived.Test.YtiellefbndlkkaaPk
import Derived.Test.YtiellefbndlkkaaRPk
import Derived.Test.YtiellefbndlkkaaAwake
namespace Go.Proofs.Ytiellefbndlkkaa
open Go.RowKit
set_option linter.unusedVariables false

theorem peaks_any (y src : List Int) (a a1 : Option Addr) (n c m c1 : Nat) (e : Bool) (w : World) (hy : IntsR w a n y) (hs : IntsR w a1 m src) :
    Calls Try.prog 58 #[.agg #[.slice a n c, .bool e], .slice a1 m c1] w (PPost y e src w) := by
  by_cases h : firstErr [lineErr y, unl (decide ((src.length : Int) ≤ 200)) 8] = 0
  · exact peaks_main y src a a1 n c m c1 e w hy hs h
  · exact peaks_bad y src a a1 n c m c1 e w hy hs h
theorem rpeaks_any (y src : List Int) (a a1 : Option Addr) (n c m c1 : Nat) (e : Bool) (w : World) (hy : IntsR w a n y) (hs : IntsR w a1 m src) :
    Calls Try.prog 60 #[.agg #[.slice a n c, .bool e], .slice a1 m c1] w (PPost y e src w) := by
  by_cases h : lineErr y = 0
  · by_cases h2 : (src.length : Int) ≤ 200
    · exact rpeaks_main y src a a1 n c m c1 e w hy hs (by rw [h]; simp [firstErr, unl, h2])
    · exact rpeaks_bad2 y src a a1 n c m c1 e w hy hs h h2
  · exact rpeaks_bad1 y src a a1 n c m c1 e w hy hs h
set_option maxRecDepth 100000 in
theorem peaksl_few (a a1 : Option Addr) (n c m c1 : Nat) (e : Bool) (w : World) (hn : n ≤ 9223372036854775807) (hm : m ≤ 9223372036854775807) (h : ¬ (n ≤ 12 ∧ (m ≤ 60 ∨ 200 < m ∧ m ≤ 202))) :
    Calls Try.prog 8 #[.agg #[.slice a n c, .bool e], .slice a1 m c1] w fun e' w' => e' = .returned (.bool true) ∧ Below w.heap.size w w' := by
  obtain ⟨g, hg⟩ : ∃ g, g = decide ((n : Int) ≤ 12) := ⟨_, rfl⟩
  have HFS := Lib.hid (fun w' => fewSections_any a n c e w' hn)
  rw [← hg] at HFS
  have hcase : g = false ∨ (g = true ∧ decide ((m : Int) > 60) = true ∧ decide ((m : Int) ≤ 200) = true) ∨ (g = true ∧ decide ((m : Int) > 60) = true ∧ decide ((m : Int) ≤ 200) = false ∧ decide ((m : Int) > 202) = true) := by
    by_cases h1 : n ≤ 12
    · have hg1 : g = true := by rw [hg]; simp; omega
      by_cases h2 : m ≤ 200
      · exact .inr (.inl ⟨hg1, by simp; omega, by simp; omega⟩)
      · exact .inr (.inr ⟨hg1, by simp; omega, by simp; omega, by simp; omega⟩)
    · exact .inl (by rw [hg]; simp; omega)
  clear hg h
  rcases hcase with rfl | ⟨rfl, i2, i3⟩ | ⟨rfl, i2, i3, i4⟩
  all_goals
    go_enter Try.func8, Try.ntmps8
    go_wp2_with fail
    refine (awake_any _).mono ?_
    rintro e5 w5 ⟨rfl, hb5⟩
    have hz5 := hb5.size
    simp only [World.size_alloc] at hz5
    have q0 : w5.cell? ⟨w.heap.size, 0, none⟩ = some (.slice a n c) := by { rw [cellB hb5 _ _ (by first | (simp; done) | (simp; omega) | omega)]; all_goals (first | assumption | go_simp) }; have q1 : w5.cell? ⟨w.heap.size, 1, none⟩ = some (.bool e) := by { rw [cellB hb5 _ _ (by first | (simp; done) | (simp; omega) | omega)]; all_goals (first | assumption | go_simp) }; have l0 : w.heap.size < w5.heap.size := by { omega }
    have HB5 := Lib.hid (show Below w.heap.size w w5 by (repeat' (first | (with_reducible exact Below.refl _ _) | (with_reducible assumption) | (with_reducible refine Below.drewN ?_ _) | (with_reducible refine Below.alloc ?_ ?_ _) | (with_reducible refine Below.drew ?_) | (with_reducible refine Below.setCell ?_ ?_ _) | (with_reducible refine Below.step (by assumption) ?_ ?_) | (with_reducible exact And.left (by assumption)) | go_size)))
    clear hb5
    go_wp2_with fail
    refine (HFS.out _).mono ?_
    rintro e6 w6 ⟨rfl, hb6⟩
    have hz6 := hb6.size
    have q0' : w6.cell? ⟨w.heap.size, 0, none⟩ = some (.slice a n c) := by { rw [cellB hb6 _ _ (by first | (simp; done) | (simp; omega) | omega)]; all_goals (first | assumption | go_simp) }; have q1' : w6.cell? ⟨w.heap.size, 1, none⟩ = some (.bool e) := by { rw [cellB hb6 _ _ (by first | (simp; done) | (simp; omega) | omega)]; all_goals (first | assumption | go_simp) }; have l0' : w.heap.size < w6.heap.size := by { omega }
    have HB6 := Lib.hid (HB5.out.trans (hb6.mono HB5.out.size))
    clear hb6 HB5 q0 q1 l0
    go_wp2
    go_ret
    exact ⟨rfl, HB6.out⟩
set_option maxHeartbeats 1000000 in
set_option maxRecDepth 100000 in
theorem peaksl_main (y src : List Int) (a a1 : Option Addr) (n c m c1 : Nat) (e : Bool) (w : World) (hy : IntsR w a n y) (hs : IntsR w a1 m src) (h12 : n ≤ 12) (h : m ≤ 60 ∨ 200 < m ∧ m ≤ 202) :
    Calls Try.prog 8 #[.agg #[.slice a n c, .bool e], .slice a1 m c1] w fun e' w' => e' = .returned (.bool true) ∧ Below w.heap.size w w' := by
  have HY := Lib.hid hy
  have HS := Lib.hid hs
  have i1 : (n : Int) ≤ 12 := by omega
  have hm : m ≤ 1000 := by omega
  have HFS := Lib.hid (fun w' => fewSections_any a n c e w' (by omega))
  rw [show decide ((n : Int) ≤ 12) = true by simpa using i1] at HFS
  have hcase : (decide ((m : Int) > 60) = false ∧ decide ((m : Int) > 202) = false) ∨ (decide ((m : Int) > 60) = true ∧ decide ((m : Int) ≤ 200) = false ∧ decide ((m : Int) > 202) = false) := by
    rcases h with h | h
    · exact .inl ⟨by simp; omega, by simp; omega⟩
    · exact .inr ⟨by simp; omega, by simp; omega, by simp; omega⟩
  clear hy hs h
  obtain ⟨⟨E, N, G⟩, hE⟩ : ∃ R, R = pkAll y e src := ⟨_, rfl⟩
  have HPE := Lib.hid hE
  clear hE
  rcases hcase with ⟨i2, i4⟩ | ⟨i2, i3, i4⟩
  all_goals
    go_enter Try.func8, Try.ntmps8
    go_wp2_with fail
    refine (awake_any _).mono ?_
    rintro e5 w5 ⟨rfl, hb5⟩
    have hz5 := hb5.size
    simp only [World.size_alloc] at hz5
    have q0 : w5.cell? ⟨w.heap.size, 0, none⟩ = some (.slice a n c) := by { rw [cellB hb5 _ _ (by first | (simp; done) | (simp; omega) | omega)]; all_goals (first | assumption | go_simp) }; have q1 : w5.cell? ⟨w.heap.size, 1, none⟩ = some (.bool e) := by { rw [cellB hb5 _ _ (by first | (simp; done) | (simp; omega) | omega)]; all_goals (first | assumption | go_simp) }; have l0 : w.heap.size < w5.heap.size := by { omega }
    have HB5 := Lib.hid (show Below w.heap.size w w5 by (repeat' (first | (with_reducible exact Below.refl _ _) | (with_reducible assumption) | (with_reducible refine Below.drewN ?_ _) | (with_reducible refine Below.alloc ?_ ?_ _) | (with_reducible refine Below.drew ?_) | (with_reducible refine Below.setCell ?_ ?_ _) | (with_reducible refine Below.step (by assumption) ?_ ?_) | (with_reducible exact And.left (by assumption)) | go_size)))
    clear hb5
    go_wp2_with fail
    refine (HFS.out _).mono ?_
    rintro e6 w6 ⟨rfl, hb6⟩
    have hz6 := hb6.size
    have q0' : w6.cell? ⟨w.heap.size, 0, none⟩ = some (.slice a n c) := by { rw [cellB hb6 _ _ (by first | (simp; done) | (simp; omega) | omega)]; all_goals (first | assumption | go_simp) }; have q1' : w6.cell? ⟨w.heap.size, 1, none⟩ = some (.bool e) := by { rw [cellB hb6 _ _ (by first | (simp; done) | (simp; omega) | omega)]; all_goals (first | assumption | go_simp) }; have l0' : w.heap.size < w6.heap.size := by { omega }
    have HB6 := Lib.hid (HB5.out.trans (hb6.mono HB5.out.size))
    clear hb6 HB5 q0 q1 l0
    go_wp2_with fail
    refine (copyLine_any y a n c e w6 (HY.out.below HB6.out) (by omega)).mono ?_
    rintro e7 w7 ⟨al, cl, rfl, hbx, hl⟩
    have HLn := Lib.hid hl
    have hz7 := hbx.size
    have q0 : w7.cell? ⟨w.heap.size, 0, none⟩ = some (.slice a n c) := by { rw [cellB hbx _ _ (by first | (simp; done) | (simp; omega) | omega)]; all_goals (first | assumption | go_simp) }; have q1 : w7.cell? ⟨w.heap.size, 1, none⟩ = some (.bool e) := by { rw [cellB hbx _ _ (by first | (simp; done) | (simp; omega) | omega)]; all_goals (first | assumption | go_simp) }; have l0 : w.heap.size < w7.heap.size := by { omega }
    have HB7 := Lib.hid (HB6.out.trans (hbx.mono HB6.out.size))
    clear hbx hl q0' q1' l0' HB6
    go_wp2_with fail
    refine (copyInts_any src a1 m c1 w7 (HS.out.below HB7.out) (by omega)).mono ?_
    rintro e8 w8 ⟨asx, cs, rfl, hbx, hl⟩
    have HSn := Lib.hid (show IntsR w8 asx m src from SlR.of_owns hl)
    have HLn := Lib.hid (HLn.out.below hbx)
    have hz8 := hbx.size
    have q0' : w8.cell? ⟨w.heap.size, 0, none⟩ = some (.slice a n c) := by { rw [cellB hbx _ _ (by first | (simp; done) | (simp; omega) | omega)]; all_goals (first | assumption | go_simp) }; have q1' : w8.cell? ⟨w.heap.size, 1, none⟩ = some (.bool e) := by { rw [cellB hbx _ _ (by first | (simp; done) | (simp; omega) | omega)]; all_goals (first | assumption | go_simp) }; have l0' : w.heap.size < w8.heap.size := by { omega }
    have HB8 := Lib.hid (HB7.out.trans (hbx.mono HB7.out.size))
    clear hbx hl q0 q1 l0 HB7
    go_wp2_with fail
    refine (peaks_any y src al asx n cl m cs e w8 HLn.out HSn.out).mono ?_
    rintro e9 w9 ⟨hbx, aN, nN, cN, aG, nG, cG, rfl, hN, hG⟩
    rw [← HPE.out] at hN hG ⊢
    have HR := Lib.hid (And.intro hN hG)
    have hz9 := hbx.size
    have q0 : w9.cell? ⟨w.heap.size, 0, none⟩ = some (.slice a n c) := by { rw [cellB hbx _ _ (by first | (simp; done) | (simp; omega) | omega)]; all_goals (first | assumption | go_simp) }; have q1 : w9.cell? ⟨w.heap.size, 1, none⟩ = some (.bool e) := by { rw [cellB hbx _ _ (by first | (simp; done) | (simp; omega) | omega)]; all_goals (first | assumption | go_simp) }; have l0 : w.heap.size < w9.heap.size := by { omega }
    have HB9 := Lib.hid (HB8.out.trans (hbx.mono HB8.out.size))
    clear hbx hN hG q0' q1' l0' HB8 HLn HSn
    go_wp2_with fail
    generalize hW : w9.alloc (Obj.cells #[.slice aN nN cN, .slice aG nG cG] 103) = wa
    have hbx : Below w9.heap.size w9 wa := by rw [← hW]; (repeat' (first | (with_reducible exact Below.refl _ _) | (with_reducible assumption) | (with_reducible refine Below.drewN ?_ _) | (with_reducible refine Below.alloc ?_ ?_ _) | (with_reducible refine Below.drew ?_) | (with_reducible refine Below.setCell ?_ ?_ _) | (with_reducible refine Below.step (by assumption) ?_ ?_) | (with_reducible exact And.left (by assumption)) | go_size))
    have y0 : wa.cell? ⟨w9.heap.size, 0, none⟩ = some (.slice aN nN cN) := by { rw [← hW]; clear hW; go_simp }
    have y1 : wa.cell? ⟨w9.heap.size, 1, none⟩ = some (.slice aG nG cG) := by { rw [← hW]; clear hW; go_simp }
    have ly : w9.heap.size < wa.heap.size := by { rw [← hW]; simp }
    have q0' : wa.cell? ⟨w.heap.size, 0, none⟩ = some (.slice a n c) := by { rw [cellB hbx _ _ (by first | (simp; done) | (simp; omega) | omega)]; all_goals (first | assumption | go_simp) }; have q1' : wa.cell? ⟨w.heap.size, 1, none⟩ = some (.bool e) := by { rw [cellB hbx _ _ (by first | (simp; done) | (simp; omega) | omega)]; all_goals (first | assumption | go_simp) }; have l0' : w.heap.size < wa.heap.size := by { omega }
    have HBa := Lib.hid (HB9.out.trans (hbx.mono HB9.out.size))
    have HR := Lib.hid (And.intro (HR.out.1.below hbx) (HR.out.2.below hbx))
    clear hbx hW q0 q1 l0 HB9
    generalize w9.heap.size = X5 at *
    go_wp2_with fail
    refine (rpeaks_any y src a a1 n c m c1 e wa (HY.out.below HBa.out) (HS.out.below HBa.out)).mono ?_
    rintro e10 wb ⟨hbx, aM, nM, cM, aH, nH, cH, rfl, hN, hG⟩
    rw [← HPE.out] at hN hG ⊢
    have HQ := Lib.hid (And.intro hN hG)
    have hzb := hbx.size
    have y0' : wb.cell? ⟨X5, 0, none⟩ = some (.slice aN nN cN) := by { rw [cellB hbx _ _ (by first | (simp; done) | (simp; omega) | omega)]; all_goals (first | assumption | go_simp) }; have y1' : wb.cell? ⟨X5, 1, none⟩ = some (.slice aG nG cG) := by { rw [cellB hbx _ _ (by first | (simp; done) | (simp; omega) | omega)]; all_goals (first | assumption | go_simp) }; have ly' : X5 < wb.heap.size := by { omega }
    have HBb := Lib.hid (HBa.out.trans (hbx.mono HBa.out.size))
    have HR := Lib.hid (And.intro (HR.out.1.below hbx) (HR.out.2.below hbx))
    clear hbx hN hG q0' q1' l0' y0 y1 ly HBa
    go_wp2_with fail
    generalize hW : wb.alloc (Obj.cells #[.slice aM nM cM, .slice aH nH cH] 103) = wd
    have hbx : Below wb.heap.size wb wd := by rw [← hW]; (repeat' (first | (with_reducible exact Below.refl _ _) | (with_reducible assumption) | (with_reducible refine Below.drewN ?_ _) | (with_reducible refine Below.alloc ?_ ?_ _) | (with_reducible refine Below.drew ?_) | (with_reducible refine Below.setCell ?_ ?_ _) | (with_reducible refine Below.step (by assumption) ?_ ?_) | (with_reducible exact And.left (by assumption)) | go_size))
    have z0 : wd.cell? ⟨wb.heap.size, 0, none⟩ = some (.slice aM nM cM) := by { rw [← hW]; clear hW; go_simp }
    have z1 : wd.cell? ⟨wb.heap.size, 1, none⟩ = some (.slice aH nH cH) := by { rw [← hW]; clear hW; go_simp }
    have lz : wb.heap.size < wd.heap.size := by { rw [← hW]; simp }
    have y0 : wd.cell? ⟨X5, 0, none⟩ = some (.slice aN nN cN) := by { rw [cellB hbx _ _ (by first | (simp; done) | (simp; omega) | omega)]; all_goals (first | assumption | go_simp) }; have y1 : wd.cell? ⟨X5, 1, none⟩ = some (.slice aG nG cG) := by { rw [cellB hbx _ _ (by first | (simp; done) | (simp; omega) | omega)]; all_goals (first | assumption | go_simp) }; have ly : X5 < wd.heap.size := by { omega }
    have HBd := Lib.hid (HBb.out.trans (hbx.mono HBb.out.size))
    have HR := Lib.hid (And.intro (HR.out.1.below hbx) (HR.out.2.below hbx))
    have HQ := Lib.hid (And.intro (HQ.out.1.below hbx) (HQ.out.2.below hbx))
    clear hbx hW y0' y1' ly' HBb
    generalize wb.heap.size = X7 at *
    go_wp2_with fail
    refine (ints_any N N aN aM nN cN nM cM wd HR.out.1 HQ.out.1).mono ?_
    rintro e11 we ⟨rfl, m1, hwe⟩
    have hbx : Below wd.heap.size wd we := by rw [hwe]; exact (Below.refl _ _).drewN _
    clear hwe
    have hze := hbx.size
    have y0' : we.cell? ⟨X5, 0, none⟩ = some (.slice aN nN cN) := by { rw [cellB hbx _ _ (by first | (simp; done) | (simp; omega) | omega)]; all_goals (first | assumption | go_simp) }; have y1' : we.cell? ⟨X5, 1, none⟩ = some (.slice aG nG cG) := by { rw [cellB hbx _ _ (by first | (simp; done) | (simp; omega) | omega)]; all_goals (first | assumption | go_simp) }; have ly' : X5 < we.heap.size := by { omega }; have z0' : we.cell? ⟨X7, 0, none⟩ = some (.slice aM nM cM) := by { rw [cellB hbx _ _ (by first | (simp; done) | (simp; omega) | omega)]; all_goals (first | assumption | go_simp) }; have z1' : we.cell? ⟨X7, 1, none⟩ = some (.slice aH nH cH) := by { rw [cellB hbx _ _ (by first | (simp; done) | (simp; omega) | omega)]; all_goals (first | assumption | go_simp) }; have lz' : X7 < we.heap.size := by { omega }
    have HBe := Lib.hid (HBd.out.trans (hbx.mono HBd.out.size))
    have HR := Lib.hid (HR.out.2.below hbx)
    have HQ := Lib.hid (HQ.out.2.below hbx)
    clear hbx y0 y1 ly z0 z1 lz HBd
    try rw [decide_eq_true (rfl : N = N)]
    go_wp2_with fail
    refine (ints_any G G aG aH nG cG nH cH we HR.out HQ.out).mono ?_
    rintro e12 wf ⟨rfl, m2, hwe⟩
    have hbx : Below we.heap.size we wf := by rw [hwe]; exact (Below.refl _ _).drewN _
    clear hwe
    have HBf := Lib.hid (HBe.out.trans (hbx.mono HBe.out.size))
    clear hbx HBe
    try rw [decide_eq_true (rfl : G = G)]
    go_wp2
    go_ret
    exact ⟨rfl, HBf.out⟩
theorem peaksl_walk (y src : List Int) (a a1 : Option Addr) (n c m c1 : Nat) (e : Bool) (w : World) (hy : IntsR w a n y) (hs : IntsR w a1 m src) :
    Calls Try.prog 8 #[.agg #[.slice a n c, .bool e], .slice a1 m c1] w fun e' w' => e' = .returned (.bool true) ∧ Below w.heap.size w w' := by
  by_cases h : n ≤ 12 ∧ (m ≤ 60 ∨ 200 < m ∧ m ≤ 202)
  · exact peaksl_main y src a a1 n c m c1 e w hy hs h.1 h.2
  · exact peaksl_few a a1 n c m c1 e w hy.small hs.small h
end Go.Proofs.Ytiellefbndlkkaa
