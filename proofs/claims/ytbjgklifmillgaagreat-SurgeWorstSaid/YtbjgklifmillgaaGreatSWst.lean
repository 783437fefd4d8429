import Derived.Test.YtbjgklifmillgaaGreatEnv
import Derived.Test.YtbjgklifmillgaaGreatREnv
/- The statement SurgeWorst: the walk. -/
namespace Go.Proofs.YtbjgklifmillgaaGreat
open Go.RowKit
set_option linter.unusedVariables false

theorem sworst_few (s e t : List Int) (a a1 a2 : Option Addr) (n c n1 c1 n2 c2 : Nat) (g : Bool) (w : World) (hs : IntsR w a n s) (he : IntsR w a1 n1 e) (ht : IntsR w a2 n2 t) (h0 : (decide ((n : Int) ≤ 8) && decide ((n1 : Int) ≤ 8) && decide ((n2 : Int) ≤ 8)) = false) :
    Calls Tryz.prog 3 #[.agg #[.slice a n c, .slice a1 n1 c1, .slice a2 n2 c2, .bool g]] w fun e' w' => e' = .returned (.bool true) ∧ Below w.heap.size w w' := by
  have HFS := Lib.hid (fun w' => few_any a a1 a2 n c n1 c1 n2 c2 g w' hs.small he.small ht.small)
  rw [h0] at HFS
  clear hs he ht h0
  go_enter Tryz.func3, Tryz.ntmps3
  go_wp2_with fail
  refine (awake_any _).mono ?_
  rintro e5 w5 ⟨rfl, hb5⟩
  have hz5 := hb5.size
  simp only [World.size_alloc] at hz5
  have q05 : w5.cell? ⟨w.heap.size, 0, none⟩ = some (.slice a n c) := by { rw [cellB hb5 _ _ (by first | (simp; done) | (simp; omega) | omega)]; all_goals (first | assumption | go_simp) }; have q15 : w5.cell? ⟨w.heap.size, 1, none⟩ = some (.slice a1 n1 c1) := by { rw [cellB hb5 _ _ (by first | (simp; done) | (simp; omega) | omega)]; all_goals (first | assumption | go_simp) }; have q25 : w5.cell? ⟨w.heap.size, 2, none⟩ = some (.slice a2 n2 c2) := by { rw [cellB hb5 _ _ (by first | (simp; done) | (simp; omega) | omega)]; all_goals (first | assumption | go_simp) }; have q35 : w5.cell? ⟨w.heap.size, 3, none⟩ = some (.bool g) := by { rw [cellB hb5 _ _ (by first | (simp; done) | (simp; omega) | omega)]; all_goals (first | assumption | go_simp) }; have l5 : w.heap.size < w5.heap.size := by { omega }
  have HB5 := Lib.hid (show Below w.heap.size w w5 by (repeat' (first | (with_reducible exact Below.refl _ _) | (with_reducible assumption) | (with_reducible refine Below.drewN ?_ _) | (with_reducible refine Below.alloc ?_ ?_ _) | (with_reducible refine Below.drew ?_) | (with_reducible refine Below.setCell ?_ ?_ _) | (with_reducible refine Below.step (by assumption) ?_ ?_) | (with_reducible exact And.left (by assumption)) | go_size)))
  clear hb5 hz5
  go_wp2_with fail
  refine (HFS.out _).mono ?_
  rintro e6 w6 ⟨rfl, hb6⟩
  have hz6 := hb6.size
  have q06 : w6.cell? ⟨w.heap.size, 0, none⟩ = some (.slice a n c) := by { rw [cellB hb6 _ _ (by first | (simp; done) | (simp; omega) | omega)]; all_goals (first | assumption | go_simp) }; have q16 : w6.cell? ⟨w.heap.size, 1, none⟩ = some (.slice a1 n1 c1) := by { rw [cellB hb6 _ _ (by first | (simp; done) | (simp; omega) | omega)]; all_goals (first | assumption | go_simp) }; have q26 : w6.cell? ⟨w.heap.size, 2, none⟩ = some (.slice a2 n2 c2) := by { rw [cellB hb6 _ _ (by first | (simp; done) | (simp; omega) | omega)]; all_goals (first | assumption | go_simp) }; have q36 : w6.cell? ⟨w.heap.size, 3, none⟩ = some (.bool g) := by { rw [cellB hb6 _ _ (by first | (simp; done) | (simp; omega) | omega)]; all_goals (first | assumption | go_simp) }; have l6 : w.heap.size < w6.heap.size := by { omega }
  have HB6 := Lib.hid (HB5.out.trans (hb6.mono HB5.out.size))
  clear hb6 hz6 q05 q15 q25 q35 l5
  go_wp2
  go_ret
  exact ⟨rfl, HB6.out⟩
set_option maxHeartbeats 1000000 in
set_option maxRecDepth 100000 in
theorem sworst_bad (s e t : List Int) (a a1 a2 : Option Addr) (n c n1 c1 n2 c2 : Nat) (g : Bool) (w : World) (hs : IntsR w a n s) (he : IntsR w a1 n1 e) (ht : IntsR w a2 n2 t) (h0 : (decide ((n : Int) ≤ 8) && decide ((n1 : Int) ≤ 8) && decide ((n2 : Int) ≤ 8)) = true) (hE : ladErr s e t ≠ 0) :
    Calls Tryz.prog 3 #[.agg #[.slice a n c, .slice a1 n1 c1, .slice a2 n2 c2, .bool g]] w fun e' w' => e' = .returned (.bool true) ∧ Below w.heap.size w w' := by
  have hn : (n ≤ 8 ∧ n1 ≤ 8) ∧ n2 ≤ 8 := by
    rw [Bool.and_eq_true, Bool.and_eq_true, decide_eq_true_eq, decide_eq_true_eq, decide_eq_true_eq] at h0; omega
  have HFS := Lib.hid (fun w' => few_any a a1 a2 n c n1 c1 n2 c2 g w' hs.small he.small ht.small)
  rw [h0] at HFS
  have HCL := Lib.hid (fun (v : World) (hv : Below w.heap.size w v) => copyLadder_any s e t a a1 a2 n c n1 c1 n2 c2 g v (hs.below hv) (he.below hv) (ht.below hv) (by omega) (by omega) (by omega))
  have HWG := Lib.hid (fun (v : World) a3 c3 a4 c4 a5 c5 (h1 : IntsR v a3 n s) (h2 : IntsR v a4 n1 e) (h3 : IntsR v a5 n2 t) => worstGap_bad s e t a3 a4 a5 n c3 n1 c4 n2 c5 g v h1 h2 h3 hE)
  have HEN := Lib.hid (fun (v : World) a3 c3 a4 c4 a5 c5 (h1 : IntsR v a3 n s) (h2 : IntsR v a4 n1 e) (h3 : IntsR v a5 n2 t) => envelopeOf_bad s e t a3 a4 a5 n c3 n1 c4 n2 c5 g v h1 h2 h3 hE)
  have HLE := Lib.hid (fun (v : World) (hv : Below w.heap.size w v) => rladderErr_any s e t a a1 a2 n c n1 c1 n2 c2 g v (hs.below hv) (he.below hv) (ht.below hv))
  generalize ladErr s e t = E at *
  have hE1 : (E != 0) = true := by simpa using hE
  have hE3 : (E == E) = true := by simp
  clear hs he ht h0 hE hn
  go_enter Tryz.func3, Tryz.ntmps3
  go_wp2_with fail
  refine (awake_any _).mono ?_
  rintro e5 w5 ⟨rfl, hb5⟩
  have hz5 := hb5.size
  simp only [World.size_alloc] at hz5
  have q05 : w5.cell? ⟨w.heap.size, 0, none⟩ = some (.slice a n c) := by { rw [cellB hb5 _ _ (by first | (simp; done) | (simp; omega) | omega)]; all_goals (first | assumption | go_simp) }; have q15 : w5.cell? ⟨w.heap.size, 1, none⟩ = some (.slice a1 n1 c1) := by { rw [cellB hb5 _ _ (by first | (simp; done) | (simp; omega) | omega)]; all_goals (first | assumption | go_simp) }; have q25 : w5.cell? ⟨w.heap.size, 2, none⟩ = some (.slice a2 n2 c2) := by { rw [cellB hb5 _ _ (by first | (simp; done) | (simp; omega) | omega)]; all_goals (first | assumption | go_simp) }; have q35 : w5.cell? ⟨w.heap.size, 3, none⟩ = some (.bool g) := by { rw [cellB hb5 _ _ (by first | (simp; done) | (simp; omega) | omega)]; all_goals (first | assumption | go_simp) }; have l5 : w.heap.size < w5.heap.size := by { omega }
  have HB5 := Lib.hid (show Below w.heap.size w w5 by (repeat' (first | (with_reducible exact Below.refl _ _) | (with_reducible assumption) | (with_reducible refine Below.drewN ?_ _) | (with_reducible refine Below.alloc ?_ ?_ _) | (with_reducible refine Below.drew ?_) | (with_reducible refine Below.setCell ?_ ?_ _) | (with_reducible refine Below.step (by assumption) ?_ ?_) | (with_reducible exact And.left (by assumption)) | go_size)))
  clear hb5 hz5
  go_wp2_with fail
  refine (HFS.out _).mono ?_
  rintro e6 w6 ⟨rfl, hb6⟩
  have hz6 := hb6.size
  have q06 : w6.cell? ⟨w.heap.size, 0, none⟩ = some (.slice a n c) := by { rw [cellB hb6 _ _ (by first | (simp; done) | (simp; omega) | omega)]; all_goals (first | assumption | go_simp) }; have q16 : w6.cell? ⟨w.heap.size, 1, none⟩ = some (.slice a1 n1 c1) := by { rw [cellB hb6 _ _ (by first | (simp; done) | (simp; omega) | omega)]; all_goals (first | assumption | go_simp) }; have q26 : w6.cell? ⟨w.heap.size, 2, none⟩ = some (.slice a2 n2 c2) := by { rw [cellB hb6 _ _ (by first | (simp; done) | (simp; omega) | omega)]; all_goals (first | assumption | go_simp) }; have q36 : w6.cell? ⟨w.heap.size, 3, none⟩ = some (.bool g) := by { rw [cellB hb6 _ _ (by first | (simp; done) | (simp; omega) | omega)]; all_goals (first | assumption | go_simp) }; have l6 : w.heap.size < w6.heap.size := by { omega }
  have HB6 := Lib.hid (HB5.out.trans (hb6.mono HB5.out.size))
  clear hb6 hz6 q05 q15 q25 q35 l5
  go_wp2_with fail
  refine (HCL.out _ HB6.out).mono ?_
  rintro e7 w7 ⟨a3, c3, a4, c4, a5, c5, rfl, hb7, h1, h2, h3⟩
  have HX := Lib.hid (HWG.out _ _ c3 _ c4 _ c5 h1 h2 h3)
  clear h1 h2 h3
  have hz7 := hb7.size
  have q07 : w7.cell? ⟨w.heap.size, 0, none⟩ = some (.slice a n c) := by { rw [cellB hb7 _ _ (by first | (simp; done) | (simp; omega) | omega)]; all_goals (first | assumption | go_simp) }; have q17 : w7.cell? ⟨w.heap.size, 1, none⟩ = some (.slice a1 n1 c1) := by { rw [cellB hb7 _ _ (by first | (simp; done) | (simp; omega) | omega)]; all_goals (first | assumption | go_simp) }; have q27 : w7.cell? ⟨w.heap.size, 2, none⟩ = some (.slice a2 n2 c2) := by { rw [cellB hb7 _ _ (by first | (simp; done) | (simp; omega) | omega)]; all_goals (first | assumption | go_simp) }; have q37 : w7.cell? ⟨w.heap.size, 3, none⟩ = some (.bool g) := by { rw [cellB hb7 _ _ (by first | (simp; done) | (simp; omega) | omega)]; all_goals (first | assumption | go_simp) }; have l7 : w.heap.size < w7.heap.size := by { omega }
  have HB7 := Lib.hid (HB6.out.trans (hb7.mono HB6.out.size))
  clear hb7 hz7 q06 q16 q26 q36 l6
  go_wp2_with fail
  refine HX.out.mono ?_
  rintro e8 w8 ⟨rfl, hb8⟩
  have hz8 := hb8.size
  have q08 : w8.cell? ⟨w.heap.size, 0, none⟩ = some (.slice a n c) := by { rw [cellB hb8 _ _ (by first | (simp; done) | (simp; omega) | omega)]; all_goals (first | assumption | go_simp) }; have q18 : w8.cell? ⟨w.heap.size, 1, none⟩ = some (.slice a1 n1 c1) := by { rw [cellB hb8 _ _ (by first | (simp; done) | (simp; omega) | omega)]; all_goals (first | assumption | go_simp) }; have q28 : w8.cell? ⟨w.heap.size, 2, none⟩ = some (.slice a2 n2 c2) := by { rw [cellB hb8 _ _ (by first | (simp; done) | (simp; omega) | omega)]; all_goals (first | assumption | go_simp) }; have q38 : w8.cell? ⟨w.heap.size, 3, none⟩ = some (.bool g) := by { rw [cellB hb8 _ _ (by first | (simp; done) | (simp; omega) | omega)]; all_goals (first | assumption | go_simp) }; have l8 : w.heap.size < w8.heap.size := by { omega }
  have HB8 := Lib.hid (HB7.out.trans (hb8.mono HB7.out.size))
  clear hb8 hz8 q07 q17 q27 q37 l7
  clear HX HWG
  go_wp2_with fail
  generalize hW : World.alloc _ _ = w9 at *
  obtain ⟨Y, hY⟩ : ∃ Y, Y = w8.heap.size := ⟨_, rfl⟩
  have hb9 : Below w8.heap.size w8 w9 := by rw [← hW]; (repeat' (first | (with_reducible exact Below.refl _ _) | (with_reducible assumption) | (with_reducible refine Below.drewN ?_ _) | (with_reducible refine Below.alloc ?_ ?_ _) | (with_reducible refine Below.drew ?_) | (with_reducible refine Below.setCell ?_ ?_ _) | (with_reducible refine Below.step (by assumption) ?_ ?_) | (with_reducible exact And.left (by assumption)) | go_size))
  have y09 : w9.cell? ⟨Y, 0, none⟩ = some (.int .i64 0) := by { rw [← hW, hY]; clear hW; go_simp }
  have y19 : w9.cell? ⟨Y, 1, none⟩ = some (.int .i64 0) := by { rw [← hW, hY]; clear hW; go_simp }
  have lY9 : Y < w9.heap.size := by rw [← hW, hY]; simp
  simp only [← hY]
  clear hW hY
  have hz9 := hb9.size
  have q09 : w9.cell? ⟨w.heap.size, 0, none⟩ = some (.slice a n c) := by { rw [cellB hb9 _ _ (by first | (simp; done) | (simp; omega) | omega)]; all_goals (first | assumption | go_simp) }; have q19 : w9.cell? ⟨w.heap.size, 1, none⟩ = some (.slice a1 n1 c1) := by { rw [cellB hb9 _ _ (by first | (simp; done) | (simp; omega) | omega)]; all_goals (first | assumption | go_simp) }; have q29 : w9.cell? ⟨w.heap.size, 2, none⟩ = some (.slice a2 n2 c2) := by { rw [cellB hb9 _ _ (by first | (simp; done) | (simp; omega) | omega)]; all_goals (first | assumption | go_simp) }; have q39 : w9.cell? ⟨w.heap.size, 3, none⟩ = some (.bool g) := by { rw [cellB hb9 _ _ (by first | (simp; done) | (simp; omega) | omega)]; all_goals (first | assumption | go_simp) }; have l9 : w.heap.size < w9.heap.size := by { omega }
  have HB9 := Lib.hid (HB8.out.trans (hb9.mono HB8.out.size))
  clear hb9 hz9 q08 q18 q28 q38 l8
  refine (HCL.out _ HB9.out).mono ?_
  rintro e10 w10 ⟨a3, c3, a4, c4, a5, c5, rfl, hb10, h1, h2, h3⟩
  have HX := Lib.hid (HEN.out _ _ c3 _ c4 _ c5 h1 h2 h3)
  clear h1 h2 h3
  have y010 : w10.cell? ⟨Y, 0, none⟩ = some (.int .i64 0) := by rw [cellB hb10 _ _ lY9]; exact y09
  have y110 : w10.cell? ⟨Y, 1, none⟩ = some (.int .i64 0) := by rw [cellB hb10 _ _ lY9]; exact y19
  have lY10 : Y < w10.heap.size := Nat.lt_of_lt_of_le lY9 hb10.size
  clear y09 y19 lY9
  have hz10 := hb10.size
  have q010 : w10.cell? ⟨w.heap.size, 0, none⟩ = some (.slice a n c) := by { rw [cellB hb10 _ _ (by first | (simp; done) | (simp; omega) | omega)]; all_goals (first | assumption | go_simp) }; have q110 : w10.cell? ⟨w.heap.size, 1, none⟩ = some (.slice a1 n1 c1) := by { rw [cellB hb10 _ _ (by first | (simp; done) | (simp; omega) | omega)]; all_goals (first | assumption | go_simp) }; have q210 : w10.cell? ⟨w.heap.size, 2, none⟩ = some (.slice a2 n2 c2) := by { rw [cellB hb10 _ _ (by first | (simp; done) | (simp; omega) | omega)]; all_goals (first | assumption | go_simp) }; have q310 : w10.cell? ⟨w.heap.size, 3, none⟩ = some (.bool g) := by { rw [cellB hb10 _ _ (by first | (simp; done) | (simp; omega) | omega)]; all_goals (first | assumption | go_simp) }; have l10 : w.heap.size < w10.heap.size := by { omega }
  have HB10 := Lib.hid (HB9.out.trans (hb10.mono HB9.out.size))
  clear hb10 hz10 q09 q19 q29 q39 l9
  go_wp2_with fail
  refine HX.out.mono ?_
  rintro e11 w11 ⟨rfl, hb11⟩
  have y011 : w11.cell? ⟨Y, 0, none⟩ = some (.int .i64 0) := by rw [cellB hb11 _ _ lY10]; exact y010
  have y111 : w11.cell? ⟨Y, 1, none⟩ = some (.int .i64 0) := by rw [cellB hb11 _ _ lY10]; exact y110
  have lY11 : Y < w11.heap.size := Nat.lt_of_lt_of_le lY10 hb11.size
  clear y010 y110 lY10
  have hz11 := hb11.size
  have q011 : w11.cell? ⟨w.heap.size, 0, none⟩ = some (.slice a n c) := by { rw [cellB hb11 _ _ (by first | (simp; done) | (simp; omega) | omega)]; all_goals (first | assumption | go_simp) }; have q111 : w11.cell? ⟨w.heap.size, 1, none⟩ = some (.slice a1 n1 c1) := by { rw [cellB hb11 _ _ (by first | (simp; done) | (simp; omega) | omega)]; all_goals (first | assumption | go_simp) }; have q211 : w11.cell? ⟨w.heap.size, 2, none⟩ = some (.slice a2 n2 c2) := by { rw [cellB hb11 _ _ (by first | (simp; done) | (simp; omega) | omega)]; all_goals (first | assumption | go_simp) }; have q311 : w11.cell? ⟨w.heap.size, 3, none⟩ = some (.bool g) := by { rw [cellB hb11 _ _ (by first | (simp; done) | (simp; omega) | omega)]; all_goals (first | assumption | go_simp) }; have l11 : w.heap.size < w11.heap.size := by { omega }
  have HB11 := Lib.hid (HB10.out.trans (hb11.mono HB10.out.size))
  clear hb11 hz11 q010 q110 q210 q310 l10
  clear HX HEN
  go_wp2_with fail
  refine (HLE.out _ HB11.out).mono ?_
  rintro e12 w12 ⟨rfl, hb12⟩
  have y012 : w12.cell? ⟨Y, 0, none⟩ = some (.int .i64 0) := by rw [cellB hb12 _ _ lY11]; exact y011
  have y112 : w12.cell? ⟨Y, 1, none⟩ = some (.int .i64 0) := by rw [cellB hb12 _ _ lY11]; exact y111
  have lY12 : Y < w12.heap.size := Nat.lt_of_lt_of_le lY11 hb12.size
  clear y011 y111 lY11
  have hz12 := hb12.size
  have q012 : w12.cell? ⟨w.heap.size, 0, none⟩ = some (.slice a n c) := by { rw [cellB hb12 _ _ (by first | (simp; done) | (simp; omega) | omega)]; all_goals (first | assumption | go_simp) }; have q112 : w12.cell? ⟨w.heap.size, 1, none⟩ = some (.slice a1 n1 c1) := by { rw [cellB hb12 _ _ (by first | (simp; done) | (simp; omega) | omega)]; all_goals (first | assumption | go_simp) }; have q212 : w12.cell? ⟨w.heap.size, 2, none⟩ = some (.slice a2 n2 c2) := by { rw [cellB hb12 _ _ (by first | (simp; done) | (simp; omega) | omega)]; all_goals (first | assumption | go_simp) }; have q312 : w12.cell? ⟨w.heap.size, 3, none⟩ = some (.bool g) := by { rw [cellB hb12 _ _ (by first | (simp; done) | (simp; omega) | omega)]; all_goals (first | assumption | go_simp) }; have l12 : w.heap.size < w12.heap.size := by { omega }
  have HB12 := Lib.hid (HB11.out.trans (hb12.mono HB11.out.size))
  clear hb12 hz12 q011 q111 q211 q311 l11
  go_wp2
  go_ret
  exact ⟨rfl, HB12.out⟩
set_option maxHeartbeats 2000000 in
set_option maxRecDepth 100000 in
theorem sworst_main (s e t : List Int) (a a1 a2 : Option Addr) (n c n1 c1 n2 c2 : Nat) (g : Bool) (w : World) (hs : IntsR w a n s) (he : IntsR w a1 n1 e) (ht : IntsR w a2 n2 t) (h0 : ladErr s e t = 0) :
    Calls Tryz.prog 3 #[.agg #[.slice a n c, .slice a1 n1 c1, .slice a2 n2 c2, .bool g]] w fun e' w' => e' = .returned (.bool true) ∧ Below w.heap.size w w' := by
  obtain ⟨hl0, hel, htl, h6, bs, be, bt⟩ := ladErr_zero h0
  have hsl := hs.len
  have hel2 := he.len
  have htl2 := ht.len
  rw [hsl] at hl0 h6 hel htl
  obtain rfl : n = n1 := by omega
  obtain rfl : n = n2 := by omega
  obtain ⟨L, hL⟩ : ∃ L : Nat, lastOf n g = L := by
    unfold lastOf
    split
    · exact ⟨n - 1, by omega⟩
    · exact ⟨n, rfl⟩
  have hlad : Lad s e g n L := ⟨hl0, h6, hsl, hel2, bs, be, hL⟩
  have HFS := Lib.hid (fun w' => few_any a a1 a2 n c n c1 n c2 g w' (by omega) (by omega) (by omega))
  rw [show (decide ((n : Int) ≤ 8) && decide ((n : Int) ≤ 8) && decide ((n : Int) ≤ 8)) = true by simp; omega] at HFS
  have HCL := Lib.hid (fun (v : World) (hv : Below w.heap.size w v) => copyLadder_any s e t a a1 a2 n c n c1 n c2 g v (hs.below hv) (he.below hv) (ht.below hv) (by omega) (by omega) (by omega))
  have HWG := Lib.hid (fun (v : World) a3 c3 a4 c4 a5 c5 (h1 : IntsR v a3 n s) (h2 : IntsR v a4 n e) (h3 : IntsR v a5 n t) => worstGap_ok s e t a3 a4 a5 n c3 c4 c5 L g v h1 h2 h3 h0 hlad)
  have HEN := Lib.hid (fun (v : World) a3 c3 a4 c4 a5 c5 (h1 : IntsR v a3 n s) (h2 : IntsR v a4 n e) (h3 : IntsR v a5 n t) => envelopeOf_ok s e t a3 a4 a5 n c3 c4 c5 L g v h1 h2 h3 h0 hlad bt)
  have HLE := Lib.hid (fun (v : World) (hv : Below w.heap.size w v) => rladderErr_any s e t a a1 a2 n c n c1 n c2 g v (hs.below hv) (he.below hv) (ht.below hv))
  rw [h0] at HLE
  have HRW := Lib.hid (fun (v : World) (hv : Below w.heap.size w v) => rworst_any s e a a1 a2 n c c1 n c2 L g v (hs.below hv) (he.below hv) hlad)
  have HRE := Lib.hid (fun (v : World) (hv : Below w.heap.size w v) => renvelope_any s e t a a1 a2 n c c1 c2 L g v (hs.below hv) (he.below hv) (ht.below hv) hlad bt)
  have hcase : ∃ (I P Q : Int) (K : Bool) (E : Int), wI s e n L = I ∧ wP s e n L = P ∧ wQ s e n L = Q ∧ wOk s e n L = K ∧ wE s e n L = E ∧ ((K = false ∧ I = 0 ∧ P = 0 ∧ Q = 0 ∧ E = 8) ∨ (K = true ∧ E = 0)) := by
    refine ⟨_, _, _, _, _, rfl, rfl, rfl, rfl, rfl, ?_⟩
    unfold wI wP wQ wE
    cases wOk s e n L
    · exact .inl ⟨rfl, rfl, rfl, rfl, rfl⟩
    · exact .inr ⟨rfl, rfl⟩
  obtain ⟨I, P, Q, K, E, hI, hP, hQ, hK, hE, hc⟩ := hcase
  have HC := Lib.hid hc
  clear hc
  rw [hI, hP, hQ, hE] at HWG
  rw [hI, hP, hQ, hK] at HRW
  clear hs he ht h0 bs be bt hsl hel htl hel2 htl2 hlad hL hI hP hQ hK hE
  generalize envBad s e t n L g = BAD at *
  generalize envL s e t n L g = EL at *
  go_enter Tryz.func3, Tryz.ntmps3
  go_wp2_with fail
  refine (awake_any _).mono ?_
  rintro e5 w5 ⟨rfl, hb5⟩
  have hz5 := hb5.size
  simp only [World.size_alloc] at hz5
  have q05 : w5.cell? ⟨w.heap.size, 0, none⟩ = some (.slice a n c) := by { rw [cellB hb5 _ _ (by first | (simp; done) | (simp; omega) | omega)]; all_goals (first | assumption | go_simp) }; have q15 : w5.cell? ⟨w.heap.size, 1, none⟩ = some (.slice a1 n c1) := by { rw [cellB hb5 _ _ (by first | (simp; done) | (simp; omega) | omega)]; all_goals (first | assumption | go_simp) }; have q25 : w5.cell? ⟨w.heap.size, 2, none⟩ = some (.slice a2 n c2) := by { rw [cellB hb5 _ _ (by first | (simp; done) | (simp; omega) | omega)]; all_goals (first | assumption | go_simp) }; have q35 : w5.cell? ⟨w.heap.size, 3, none⟩ = some (.bool g) := by { rw [cellB hb5 _ _ (by first | (simp; done) | (simp; omega) | omega)]; all_goals (first | assumption | go_simp) }; have l5 : w.heap.size < w5.heap.size := by { omega }
  have HB5 := Lib.hid (show Below w.heap.size w w5 by (repeat' (first | (with_reducible exact Below.refl _ _) | (with_reducible assumption) | (with_reducible refine Below.drewN ?_ _) | (with_reducible refine Below.alloc ?_ ?_ _) | (with_reducible refine Below.drew ?_) | (with_reducible refine Below.setCell ?_ ?_ _) | (with_reducible refine Below.step (by assumption) ?_ ?_) | (with_reducible exact And.left (by assumption)) | go_size)))
  clear hb5 hz5
  go_wp2_with fail
  refine (HFS.out _).mono ?_
  rintro e6 w6 ⟨rfl, hb6⟩
  have hz6 := hb6.size
  have q06 : w6.cell? ⟨w.heap.size, 0, none⟩ = some (.slice a n c) := by { rw [cellB hb6 _ _ (by first | (simp; done) | (simp; omega) | omega)]; all_goals (first | assumption | go_simp) }; have q16 : w6.cell? ⟨w.heap.size, 1, none⟩ = some (.slice a1 n c1) := by { rw [cellB hb6 _ _ (by first | (simp; done) | (simp; omega) | omega)]; all_goals (first | assumption | go_simp) }; have q26 : w6.cell? ⟨w.heap.size, 2, none⟩ = some (.slice a2 n c2) := by { rw [cellB hb6 _ _ (by first | (simp; done) | (simp; omega) | omega)]; all_goals (first | assumption | go_simp) }; have q36 : w6.cell? ⟨w.heap.size, 3, none⟩ = some (.bool g) := by { rw [cellB hb6 _ _ (by first | (simp; done) | (simp; omega) | omega)]; all_goals (first | assumption | go_simp) }; have l6 : w.heap.size < w6.heap.size := by { omega }
  have HB6 := Lib.hid (HB5.out.trans (hb6.mono HB5.out.size))
  clear hb6 hz6 q05 q15 q25 q35 l5
  go_wp2_with fail
  refine (HCL.out _ HB6.out).mono ?_
  rintro e7 w7 ⟨a3, c3, a4, c4, a5, c5, rfl, hb7, h1, h2, h3⟩
  have HX := Lib.hid (HWG.out _ _ c3 _ c4 _ c5 h1 h2 h3)
  clear h1 h2 h3
  have hz7 := hb7.size
  have q07 : w7.cell? ⟨w.heap.size, 0, none⟩ = some (.slice a n c) := by { rw [cellB hb7 _ _ (by first | (simp; done) | (simp; omega) | omega)]; all_goals (first | assumption | go_simp) }; have q17 : w7.cell? ⟨w.heap.size, 1, none⟩ = some (.slice a1 n c1) := by { rw [cellB hb7 _ _ (by first | (simp; done) | (simp; omega) | omega)]; all_goals (first | assumption | go_simp) }; have q27 : w7.cell? ⟨w.heap.size, 2, none⟩ = some (.slice a2 n c2) := by { rw [cellB hb7 _ _ (by first | (simp; done) | (simp; omega) | omega)]; all_goals (first | assumption | go_simp) }; have q37 : w7.cell? ⟨w.heap.size, 3, none⟩ = some (.bool g) := by { rw [cellB hb7 _ _ (by first | (simp; done) | (simp; omega) | omega)]; all_goals (first | assumption | go_simp) }; have l7 : w.heap.size < w7.heap.size := by { omega }
  have HB7 := Lib.hid (HB6.out.trans (hb7.mono HB6.out.size))
  clear hb7 hz7 q06 q16 q26 q36 l6
  go_wp2_with fail
  refine HX.out.mono ?_
  rintro e8 w8 ⟨rfl, hb8⟩
  have hz8 := hb8.size
  have q08 : w8.cell? ⟨w.heap.size, 0, none⟩ = some (.slice a n c) := by { rw [cellB hb8 _ _ (by first | (simp; done) | (simp; omega) | omega)]; all_goals (first | assumption | go_simp) }; have q18 : w8.cell? ⟨w.heap.size, 1, none⟩ = some (.slice a1 n c1) := by { rw [cellB hb8 _ _ (by first | (simp; done) | (simp; omega) | omega)]; all_goals (first | assumption | go_simp) }; have q28 : w8.cell? ⟨w.heap.size, 2, none⟩ = some (.slice a2 n c2) := by { rw [cellB hb8 _ _ (by first | (simp; done) | (simp; omega) | omega)]; all_goals (first | assumption | go_simp) }; have q38 : w8.cell? ⟨w.heap.size, 3, none⟩ = some (.bool g) := by { rw [cellB hb8 _ _ (by first | (simp; done) | (simp; omega) | omega)]; all_goals (first | assumption | go_simp) }; have l8 : w.heap.size < w8.heap.size := by { omega }
  have HB8 := Lib.hid (HB7.out.trans (hb8.mono HB7.out.size))
  clear hb8 hz8 q07 q17 q27 q37 l7
  clear HX HWG
  go_wp2_with fail
  generalize hW : World.alloc _ _ = w9 at *
  obtain ⟨Y, hY⟩ : ∃ Y, Y = w8.heap.size := ⟨_, rfl⟩
  have hb9 : Below w8.heap.size w8 w9 := by rw [← hW]; (repeat' (first | (with_reducible exact Below.refl _ _) | (with_reducible assumption) | (with_reducible refine Below.drewN ?_ _) | (with_reducible refine Below.alloc ?_ ?_ _) | (with_reducible refine Below.drew ?_) | (with_reducible refine Below.setCell ?_ ?_ _) | (with_reducible refine Below.step (by assumption) ?_ ?_) | (with_reducible exact And.left (by assumption)) | go_size))
  have y09 : w9.cell? ⟨Y, 0, none⟩ = some (.int .i64 P) := by { rw [← hW, hY]; clear hW; go_simp }
  have y19 : w9.cell? ⟨Y, 1, none⟩ = some (.int .i64 Q) := by { rw [← hW, hY]; clear hW; go_simp }
  have lY9 : Y < w9.heap.size := by rw [← hW, hY]; simp
  simp only [← hY]
  clear hW hY
  have hz9 := hb9.size
  have q09 : w9.cell? ⟨w.heap.size, 0, none⟩ = some (.slice a n c) := by { rw [cellB hb9 _ _ (by first | (simp; done) | (simp; omega) | omega)]; all_goals (first | assumption | go_simp) }; have q19 : w9.cell? ⟨w.heap.size, 1, none⟩ = some (.slice a1 n c1) := by { rw [cellB hb9 _ _ (by first | (simp; done) | (simp; omega) | omega)]; all_goals (first | assumption | go_simp) }; have q29 : w9.cell? ⟨w.heap.size, 2, none⟩ = some (.slice a2 n c2) := by { rw [cellB hb9 _ _ (by first | (simp; done) | (simp; omega) | omega)]; all_goals (first | assumption | go_simp) }; have q39 : w9.cell? ⟨w.heap.size, 3, none⟩ = some (.bool g) := by { rw [cellB hb9 _ _ (by first | (simp; done) | (simp; omega) | omega)]; all_goals (first | assumption | go_simp) }; have l9 : w.heap.size < w9.heap.size := by { omega }
  have HB9 := Lib.hid (HB8.out.trans (hb9.mono HB8.out.size))
  clear hb9 hz9 q08 q18 q28 q38 l8
  refine (HCL.out _ HB9.out).mono ?_
  rintro e10 w10 ⟨a3, c3, a4, c4, a5, c5, rfl, hb10, h1, h2, h3⟩
  have HX := Lib.hid (HEN.out _ _ c3 _ c4 _ c5 h1 h2 h3)
  clear h1 h2 h3
  have y010 : w10.cell? ⟨Y, 0, none⟩ = some (.int .i64 P) := by rw [cellB hb10 _ _ lY9]; exact y09
  have y110 : w10.cell? ⟨Y, 1, none⟩ = some (.int .i64 Q) := by rw [cellB hb10 _ _ lY9]; exact y19
  have lY10 : Y < w10.heap.size := Nat.lt_of_lt_of_le lY9 hb10.size
  clear y09 y19 lY9
  have hz10 := hb10.size
  have q010 : w10.cell? ⟨w.heap.size, 0, none⟩ = some (.slice a n c) := by { rw [cellB hb10 _ _ (by first | (simp; done) | (simp; omega) | omega)]; all_goals (first | assumption | go_simp) }; have q110 : w10.cell? ⟨w.heap.size, 1, none⟩ = some (.slice a1 n c1) := by { rw [cellB hb10 _ _ (by first | (simp; done) | (simp; omega) | omega)]; all_goals (first | assumption | go_simp) }; have q210 : w10.cell? ⟨w.heap.size, 2, none⟩ = some (.slice a2 n c2) := by { rw [cellB hb10 _ _ (by first | (simp; done) | (simp; omega) | omega)]; all_goals (first | assumption | go_simp) }; have q310 : w10.cell? ⟨w.heap.size, 3, none⟩ = some (.bool g) := by { rw [cellB hb10 _ _ (by first | (simp; done) | (simp; omega) | omega)]; all_goals (first | assumption | go_simp) }; have l10 : w.heap.size < w10.heap.size := by { omega }
  have HB10 := Lib.hid (HB9.out.trans (hb10.mono HB9.out.size))
  clear hb10 hz10 q09 q19 q29 q39 l9
  go_wp2_with fail
  refine HX.out.mono ?_
  rintro e11 w11 ⟨hb11, hep⟩
  have HEP := Lib.hid hep
  clear hep
  have y011 : w11.cell? ⟨Y, 0, none⟩ = some (.int .i64 P) := by rw [cellB hb11 _ _ lY10]; exact y010
  have y111 : w11.cell? ⟨Y, 1, none⟩ = some (.int .i64 Q) := by rw [cellB hb11 _ _ lY10]; exact y110
  have lY11 : Y < w11.heap.size := Nat.lt_of_lt_of_le lY10 hb11.size
  clear y010 y110 lY10
  have hz11 := hb11.size
  have q011 : w11.cell? ⟨w.heap.size, 0, none⟩ = some (.slice a n c) := by { rw [cellB hb11 _ _ (by first | (simp; done) | (simp; omega) | omega)]; all_goals (first | assumption | go_simp) }; have q111 : w11.cell? ⟨w.heap.size, 1, none⟩ = some (.slice a1 n c1) := by { rw [cellB hb11 _ _ (by first | (simp; done) | (simp; omega) | omega)]; all_goals (first | assumption | go_simp) }; have q211 : w11.cell? ⟨w.heap.size, 2, none⟩ = some (.slice a2 n c2) := by { rw [cellB hb11 _ _ (by first | (simp; done) | (simp; omega) | omega)]; all_goals (first | assumption | go_simp) }; have q311 : w11.cell? ⟨w.heap.size, 3, none⟩ = some (.bool g) := by { rw [cellB hb11 _ _ (by first | (simp; done) | (simp; omega) | omega)]; all_goals (first | assumption | go_simp) }; have l11 : w.heap.size < w11.heap.size := by { omega }
  have HB11 := Lib.hid (HB10.out.trans (hb11.mono HB10.out.size))
  clear hb11 hz11 q010 q110 q210 q310 l10
  clear HX HEN
  rcases HEP.out with ⟨hbad, rfl⟩ | ⟨hgood, au, cu, rfl, hu⟩
  · have HBAD := Lib.hid hbad
    clear hbad
    go_wp2_with fail
    refine (HLE.out _ HB11.out).mono ?_
    rintro e12 w12 ⟨rfl, hb12⟩
    skip
    have y012 : w12.cell? ⟨Y, 0, none⟩ = some (.int .i64 P) := by rw [cellB hb12 _ _ lY11]; exact y011
    have y112 : w12.cell? ⟨Y, 1, none⟩ = some (.int .i64 Q) := by rw [cellB hb12 _ _ lY11]; exact y111
    have lY12 : Y < w12.heap.size := Nat.lt_of_lt_of_le lY11 hb12.size
    clear y011 y111 lY11
    have hz12 := hb12.size
    have q012 : w12.cell? ⟨w.heap.size, 0, none⟩ = some (.slice a n c) := by { rw [cellB hb12 _ _ (by first | (simp; done) | (simp; omega) | omega)]; all_goals (first | assumption | go_simp) }; have q112 : w12.cell? ⟨w.heap.size, 1, none⟩ = some (.slice a1 n c1) := by { rw [cellB hb12 _ _ (by first | (simp; done) | (simp; omega) | omega)]; all_goals (first | assumption | go_simp) }; have q212 : w12.cell? ⟨w.heap.size, 2, none⟩ = some (.slice a2 n c2) := by { rw [cellB hb12 _ _ (by first | (simp; done) | (simp; omega) | omega)]; all_goals (first | assumption | go_simp) }; have q312 : w12.cell? ⟨w.heap.size, 3, none⟩ = some (.bool g) := by { rw [cellB hb12 _ _ (by first | (simp; done) | (simp; omega) | omega)]; all_goals (first | assumption | go_simp) }; have l12 : w.heap.size < w12.heap.size := by { omega }
    have HB12 := Lib.hid (HB11.out.trans (hb12.mono HB11.out.size))
    clear hb12 hz12 q011 q111 q211 q311 l11
    go_wp2_with fail
    refine (HRW.out _ HB12.out).mono ?_
    rintro e13 w13 ⟨rfl, hb13⟩
    skip
    have y013 : w13.cell? ⟨Y, 0, none⟩ = some (.int .i64 P) := by rw [cellB hb13 _ _ lY12]; exact y012
    have y113 : w13.cell? ⟨Y, 1, none⟩ = some (.int .i64 Q) := by rw [cellB hb13 _ _ lY12]; exact y112
    have lY13 : Y < w13.heap.size := Nat.lt_of_lt_of_le lY12 hb13.size
    clear y012 y112 lY12
    have hz13 := hb13.size
    have q013 : w13.cell? ⟨w.heap.size, 0, none⟩ = some (.slice a n c) := by { rw [cellB hb13 _ _ (by first | (simp; done) | (simp; omega) | omega)]; all_goals (first | assumption | go_simp) }; have q113 : w13.cell? ⟨w.heap.size, 1, none⟩ = some (.slice a1 n c1) := by { rw [cellB hb13 _ _ (by first | (simp; done) | (simp; omega) | omega)]; all_goals (first | assumption | go_simp) }; have q213 : w13.cell? ⟨w.heap.size, 2, none⟩ = some (.slice a2 n c2) := by { rw [cellB hb13 _ _ (by first | (simp; done) | (simp; omega) | omega)]; all_goals (first | assumption | go_simp) }; have q313 : w13.cell? ⟨w.heap.size, 3, none⟩ = some (.bool g) := by { rw [cellB hb13 _ _ (by first | (simp; done) | (simp; omega) | omega)]; all_goals (first | assumption | go_simp) }; have l13 : w.heap.size < w13.heap.size := by { omega }
    have HB13 := Lib.hid (HB12.out.trans (hb13.mono HB12.out.size))
    clear hb13 hz13 q012 q112 q212 q312 l12
    clear HRW HLE HCL HFS
    rcases HC.out with ⟨rfl, rfl, rfl, rfl, rfl⟩ | ⟨rfl, rfl⟩
    · clear HC
      go_wp2_with fail
      generalize hW : World.alloc _ _ = w14 at *
      have hb14 : Below w13.heap.size w13 w14 := by rw [← hW]; (repeat' (first | (with_reducible exact Below.refl _ _) | (with_reducible assumption) | (with_reducible refine Below.drewN ?_ _) | (with_reducible refine Below.alloc ?_ ?_ _) | (with_reducible refine Below.drew ?_) | (with_reducible refine Below.setCell ?_ ?_ _) | (with_reducible refine Below.step (by assumption) ?_ ?_) | (with_reducible exact And.left (by assumption)) | go_size))
      clear hW
      skip
      have y014 : w14.cell? ⟨Y, 0, none⟩ = some (.int .i64 0) := by rw [cellB hb14 _ _ lY13]; exact y013
      have y114 : w14.cell? ⟨Y, 1, none⟩ = some (.int .i64 0) := by rw [cellB hb14 _ _ lY13]; exact y113
      have lY14 : Y < w14.heap.size := Nat.lt_of_lt_of_le lY13 hb14.size
      clear y013 y113 lY13
      have hz14 := hb14.size
      have q014 : w14.cell? ⟨w.heap.size, 0, none⟩ = some (.slice a n c) := by { rw [cellB hb14 _ _ (by first | (simp; done) | (simp; omega) | omega)]; all_goals (first | assumption | go_simp) }; have q114 : w14.cell? ⟨w.heap.size, 1, none⟩ = some (.slice a1 n c1) := by { rw [cellB hb14 _ _ (by first | (simp; done) | (simp; omega) | omega)]; all_goals (first | assumption | go_simp) }; have q214 : w14.cell? ⟨w.heap.size, 2, none⟩ = some (.slice a2 n c2) := by { rw [cellB hb14 _ _ (by first | (simp; done) | (simp; omega) | omega)]; all_goals (first | assumption | go_simp) }; have q314 : w14.cell? ⟨w.heap.size, 3, none⟩ = some (.bool g) := by { rw [cellB hb14 _ _ (by first | (simp; done) | (simp; omega) | omega)]; all_goals (first | assumption | go_simp) }; have l14 : w.heap.size < w14.heap.size := by { omega }
      have HB14 := Lib.hid (HB13.out.trans (hb14.mono HB13.out.size))
      clear hb14 hz14 q013 q113 q213 q313 l13
      refine (HRE.out _ HB14.out).mono ?_
      rintro e15 w15 ⟨hb15, hep2⟩
      have HEP2 := Lib.hid hep2
      clear hep2
      skip
      have y015 : w15.cell? ⟨Y, 0, none⟩ = some (.int .i64 0) := by rw [cellB hb15 _ _ lY14]; exact y014
      have y115 : w15.cell? ⟨Y, 1, none⟩ = some (.int .i64 0) := by rw [cellB hb15 _ _ lY14]; exact y114
      have lY15 : Y < w15.heap.size := Nat.lt_of_lt_of_le lY14 hb15.size
      clear y014 y114 lY14
      have hz15 := hb15.size
      have q015 : w15.cell? ⟨w.heap.size, 0, none⟩ = some (.slice a n c) := by { rw [cellB hb15 _ _ (by first | (simp; done) | (simp; omega) | omega)]; all_goals (first | assumption | go_simp) }; have q115 : w15.cell? ⟨w.heap.size, 1, none⟩ = some (.slice a1 n c1) := by { rw [cellB hb15 _ _ (by first | (simp; done) | (simp; omega) | omega)]; all_goals (first | assumption | go_simp) }; have q215 : w15.cell? ⟨w.heap.size, 2, none⟩ = some (.slice a2 n c2) := by { rw [cellB hb15 _ _ (by first | (simp; done) | (simp; omega) | omega)]; all_goals (first | assumption | go_simp) }; have q315 : w15.cell? ⟨w.heap.size, 3, none⟩ = some (.bool g) := by { rw [cellB hb15 _ _ (by first | (simp; done) | (simp; omega) | omega)]; all_goals (first | assumption | go_simp) }; have l15 : w.heap.size < w15.heap.size := by { omega }
      have HB15 := Lib.hid (HB14.out.trans (hb15.mono HB14.out.size))
      clear hb15 hz15 q014 q114 q214 q314 l14
      rcases HEP2.out with ⟨hbad2, rfl⟩ | ⟨hgood2, aw, cw, rfl, hw⟩
      · clear hbad2
        go_wp2_with fail
        refine (fracsOr_no _ _ _ _).mono ?_
        rintro e16 w16 ⟨rfl, hb16⟩
        have HB16 := Lib.hid (HB15.out.trans (hb16.mono HB15.out.size))
        clear hb16
        go_wp2
        go_ret
        exact ⟨rfl, HB16.out⟩
      · rw [HBAD.out] at hgood2; exact absurd hgood2 (by simp)
    · clear HC
      go_wp2_with fail
      generalize hW : World.alloc _ _ = w14 at *
      have hb14 : Below w13.heap.size w13 w14 := by rw [← hW]; (repeat' (first | (with_reducible exact Below.refl _ _) | (with_reducible assumption) | (with_reducible refine Below.drewN ?_ _) | (with_reducible refine Below.alloc ?_ ?_ _) | (with_reducible refine Below.drew ?_) | (with_reducible refine Below.setCell ?_ ?_ _) | (with_reducible refine Below.step (by assumption) ?_ ?_) | (with_reducible exact And.left (by assumption)) | go_size))
      clear hW
      skip
      have y014 : w14.cell? ⟨Y, 0, none⟩ = some (.int .i64 P) := by rw [cellB hb14 _ _ lY13]; exact y013
      have y114 : w14.cell? ⟨Y, 1, none⟩ = some (.int .i64 Q) := by rw [cellB hb14 _ _ lY13]; exact y113
      have lY14 : Y < w14.heap.size := Nat.lt_of_lt_of_le lY13 hb14.size
      clear y013 y113 lY13
      have hz14 := hb14.size
      have q014 : w14.cell? ⟨w.heap.size, 0, none⟩ = some (.slice a n c) := by { rw [cellB hb14 _ _ (by first | (simp; done) | (simp; omega) | omega)]; all_goals (first | assumption | go_simp) }; have q114 : w14.cell? ⟨w.heap.size, 1, none⟩ = some (.slice a1 n c1) := by { rw [cellB hb14 _ _ (by first | (simp; done) | (simp; omega) | omega)]; all_goals (first | assumption | go_simp) }; have q214 : w14.cell? ⟨w.heap.size, 2, none⟩ = some (.slice a2 n c2) := by { rw [cellB hb14 _ _ (by first | (simp; done) | (simp; omega) | omega)]; all_goals (first | assumption | go_simp) }; have q314 : w14.cell? ⟨w.heap.size, 3, none⟩ = some (.bool g) := by { rw [cellB hb14 _ _ (by first | (simp; done) | (simp; omega) | omega)]; all_goals (first | assumption | go_simp) }; have l14 : w.heap.size < w14.heap.size := by { omega }
      have HB14 := Lib.hid (HB13.out.trans (hb14.mono HB13.out.size))
      clear hb14 hz14 q013 q113 q213 q313 l13
      refine (HRE.out _ HB14.out).mono ?_
      rintro e15 w15 ⟨hb15, hep2⟩
      have HEP2 := Lib.hid hep2
      clear hep2
      skip
      have y015 : w15.cell? ⟨Y, 0, none⟩ = some (.int .i64 P) := by rw [cellB hb15 _ _ lY14]; exact y014
      have y115 : w15.cell? ⟨Y, 1, none⟩ = some (.int .i64 Q) := by rw [cellB hb15 _ _ lY14]; exact y114
      have lY15 : Y < w15.heap.size := Nat.lt_of_lt_of_le lY14 hb15.size
      clear y014 y114 lY14
      have hz15 := hb15.size
      have q015 : w15.cell? ⟨w.heap.size, 0, none⟩ = some (.slice a n c) := by { rw [cellB hb15 _ _ (by first | (simp; done) | (simp; omega) | omega)]; all_goals (first | assumption | go_simp) }; have q115 : w15.cell? ⟨w.heap.size, 1, none⟩ = some (.slice a1 n c1) := by { rw [cellB hb15 _ _ (by first | (simp; done) | (simp; omega) | omega)]; all_goals (first | assumption | go_simp) }; have q215 : w15.cell? ⟨w.heap.size, 2, none⟩ = some (.slice a2 n c2) := by { rw [cellB hb15 _ _ (by first | (simp; done) | (simp; omega) | omega)]; all_goals (first | assumption | go_simp) }; have q315 : w15.cell? ⟨w.heap.size, 3, none⟩ = some (.bool g) := by { rw [cellB hb15 _ _ (by first | (simp; done) | (simp; omega) | omega)]; all_goals (first | assumption | go_simp) }; have l15 : w.heap.size < w15.heap.size := by { omega }
      have HB15 := Lib.hid (HB14.out.trans (hb15.mono HB14.out.size))
      clear hb15 hz15 q014 q114 q214 q314 l14
      rcases HEP2.out with ⟨hbad2, rfl⟩ | ⟨hgood2, aw, cw, rfl, hw⟩
      · clear hbad2
        go_wp2_with fail
        refine (fracsOr_no _ _ _ _).mono ?_
        rintro e16 w16 ⟨rfl, hb16⟩
        have HB16 := Lib.hid (HB15.out.trans (hb16.mono HB15.out.size))
        clear hb16
        go_wp2
        go_ret
        exact ⟨rfl, HB16.out⟩
      · rw [HBAD.out] at hgood2; exact absurd hgood2 (by simp)
  · have HGOOD := Lib.hid hgood
    have HU := Lib.hid hu
    clear hgood hu
    go_wp2_with fail
    refine (HLE.out _ HB11.out).mono ?_
    rintro e12 w12 ⟨rfl, hb12⟩
    have HU := Lib.hid (HU.out.below hb12)
    have y012 : w12.cell? ⟨Y, 0, none⟩ = some (.int .i64 P) := by rw [cellB hb12 _ _ lY11]; exact y011
    have y112 : w12.cell? ⟨Y, 1, none⟩ = some (.int .i64 Q) := by rw [cellB hb12 _ _ lY11]; exact y111
    have lY12 : Y < w12.heap.size := Nat.lt_of_lt_of_le lY11 hb12.size
    clear y011 y111 lY11
    have hz12 := hb12.size
    have q012 : w12.cell? ⟨w.heap.size, 0, none⟩ = some (.slice a n c) := by { rw [cellB hb12 _ _ (by first | (simp; done) | (simp; omega) | omega)]; all_goals (first | assumption | go_simp) }; have q112 : w12.cell? ⟨w.heap.size, 1, none⟩ = some (.slice a1 n c1) := by { rw [cellB hb12 _ _ (by first | (simp; done) | (simp; omega) | omega)]; all_goals (first | assumption | go_simp) }; have q212 : w12.cell? ⟨w.heap.size, 2, none⟩ = some (.slice a2 n c2) := by { rw [cellB hb12 _ _ (by first | (simp; done) | (simp; omega) | omega)]; all_goals (first | assumption | go_simp) }; have q312 : w12.cell? ⟨w.heap.size, 3, none⟩ = some (.bool g) := by { rw [cellB hb12 _ _ (by first | (simp; done) | (simp; omega) | omega)]; all_goals (first | assumption | go_simp) }; have l12 : w.heap.size < w12.heap.size := by { omega }
    have HB12 := Lib.hid (HB11.out.trans (hb12.mono HB11.out.size))
    clear hb12 hz12 q011 q111 q211 q311 l11
    go_wp2_with fail
    refine (HRW.out _ HB12.out).mono ?_
    rintro e13 w13 ⟨rfl, hb13⟩
    have HU := Lib.hid (HU.out.below hb13)
    have y013 : w13.cell? ⟨Y, 0, none⟩ = some (.int .i64 P) := by rw [cellB hb13 _ _ lY12]; exact y012
    have y113 : w13.cell? ⟨Y, 1, none⟩ = some (.int .i64 Q) := by rw [cellB hb13 _ _ lY12]; exact y112
    have lY13 : Y < w13.heap.size := Nat.lt_of_lt_of_le lY12 hb13.size
    clear y012 y112 lY12
    have hz13 := hb13.size
    have q013 : w13.cell? ⟨w.heap.size, 0, none⟩ = some (.slice a n c) := by { rw [cellB hb13 _ _ (by first | (simp; done) | (simp; omega) | omega)]; all_goals (first | assumption | go_simp) }; have q113 : w13.cell? ⟨w.heap.size, 1, none⟩ = some (.slice a1 n c1) := by { rw [cellB hb13 _ _ (by first | (simp; done) | (simp; omega) | omega)]; all_goals (first | assumption | go_simp) }; have q213 : w13.cell? ⟨w.heap.size, 2, none⟩ = some (.slice a2 n c2) := by { rw [cellB hb13 _ _ (by first | (simp; done) | (simp; omega) | omega)]; all_goals (first | assumption | go_simp) }; have q313 : w13.cell? ⟨w.heap.size, 3, none⟩ = some (.bool g) := by { rw [cellB hb13 _ _ (by first | (simp; done) | (simp; omega) | omega)]; all_goals (first | assumption | go_simp) }; have l13 : w.heap.size < w13.heap.size := by { omega }
    have HB13 := Lib.hid (HB12.out.trans (hb13.mono HB12.out.size))
    clear hb13 hz13 q012 q112 q212 q312 l12
    clear HRW HLE HCL HFS
    rcases HC.out with ⟨rfl, rfl, rfl, rfl, rfl⟩ | ⟨rfl, rfl⟩
    · clear HC
      go_wp2_with fail
      generalize hW : World.alloc _ _ = w14 at *
      have hb14 : Below w13.heap.size w13 w14 := by rw [← hW]; (repeat' (first | (with_reducible exact Below.refl _ _) | (with_reducible assumption) | (with_reducible refine Below.drewN ?_ _) | (with_reducible refine Below.alloc ?_ ?_ _) | (with_reducible refine Below.drew ?_) | (with_reducible refine Below.setCell ?_ ?_ _) | (with_reducible refine Below.step (by assumption) ?_ ?_) | (with_reducible exact And.left (by assumption)) | go_size))
      clear hW
      have HU := Lib.hid (HU.out.below hb14)
      have y014 : w14.cell? ⟨Y, 0, none⟩ = some (.int .i64 0) := by rw [cellB hb14 _ _ lY13]; exact y013
      have y114 : w14.cell? ⟨Y, 1, none⟩ = some (.int .i64 0) := by rw [cellB hb14 _ _ lY13]; exact y113
      have lY14 : Y < w14.heap.size := Nat.lt_of_lt_of_le lY13 hb14.size
      clear y013 y113 lY13
      have hz14 := hb14.size
      have q014 : w14.cell? ⟨w.heap.size, 0, none⟩ = some (.slice a n c) := by { rw [cellB hb14 _ _ (by first | (simp; done) | (simp; omega) | omega)]; all_goals (first | assumption | go_simp) }; have q114 : w14.cell? ⟨w.heap.size, 1, none⟩ = some (.slice a1 n c1) := by { rw [cellB hb14 _ _ (by first | (simp; done) | (simp; omega) | omega)]; all_goals (first | assumption | go_simp) }; have q214 : w14.cell? ⟨w.heap.size, 2, none⟩ = some (.slice a2 n c2) := by { rw [cellB hb14 _ _ (by first | (simp; done) | (simp; omega) | omega)]; all_goals (first | assumption | go_simp) }; have q314 : w14.cell? ⟨w.heap.size, 3, none⟩ = some (.bool g) := by { rw [cellB hb14 _ _ (by first | (simp; done) | (simp; omega) | omega)]; all_goals (first | assumption | go_simp) }; have l14 : w.heap.size < w14.heap.size := by { omega }
      have HB14 := Lib.hid (HB13.out.trans (hb14.mono HB13.out.size))
      clear hb14 hz14 q013 q113 q213 q313 l13
      refine (HRE.out _ HB14.out).mono ?_
      rintro e15 w15 ⟨hb15, hep2⟩
      have HEP2 := Lib.hid hep2
      clear hep2
      have HU := Lib.hid (HU.out.below hb15)
      have y015 : w15.cell? ⟨Y, 0, none⟩ = some (.int .i64 0) := by rw [cellB hb15 _ _ lY14]; exact y014
      have y115 : w15.cell? ⟨Y, 1, none⟩ = some (.int .i64 0) := by rw [cellB hb15 _ _ lY14]; exact y114
      have lY15 : Y < w15.heap.size := Nat.lt_of_lt_of_le lY14 hb15.size
      clear y014 y114 lY14
      have hz15 := hb15.size
      have q015 : w15.cell? ⟨w.heap.size, 0, none⟩ = some (.slice a n c) := by { rw [cellB hb15 _ _ (by first | (simp; done) | (simp; omega) | omega)]; all_goals (first | assumption | go_simp) }; have q115 : w15.cell? ⟨w.heap.size, 1, none⟩ = some (.slice a1 n c1) := by { rw [cellB hb15 _ _ (by first | (simp; done) | (simp; omega) | omega)]; all_goals (first | assumption | go_simp) }; have q215 : w15.cell? ⟨w.heap.size, 2, none⟩ = some (.slice a2 n c2) := by { rw [cellB hb15 _ _ (by first | (simp; done) | (simp; omega) | omega)]; all_goals (first | assumption | go_simp) }; have q315 : w15.cell? ⟨w.heap.size, 3, none⟩ = some (.bool g) := by { rw [cellB hb15 _ _ (by first | (simp; done) | (simp; omega) | omega)]; all_goals (first | assumption | go_simp) }; have l15 : w.heap.size < w15.heap.size := by { omega }
      have HB15 := Lib.hid (HB14.out.trans (hb15.mono HB14.out.size))
      clear hb15 hz15 q014 q114 q214 q314 l14
      rcases HEP2.out with ⟨hbad2, rfl⟩ | ⟨hgood2, aw, cw, rfl, hw⟩
      · rw [HGOOD.out] at hbad2; exact absurd hbad2 (by simp)
      · have HX := Lib.hid (fracsOr_yes _ _ _ _ cu _ cw _ HU.out hw)
        clear hgood2 hw
        go_wp2_with fail
        refine HX.out.mono ?_
        rintro e16 w16 ⟨rfl, hb16⟩
        have HB16 := Lib.hid (HB15.out.trans (hb16.mono HB15.out.size))
        clear hb16
        go_wp2
        go_ret
        exact ⟨rfl, HB16.out⟩
    · clear HC
      go_wp2_with fail
      generalize hW : World.alloc _ _ = w14 at *
      have hb14 : Below w13.heap.size w13 w14 := by rw [← hW]; (repeat' (first | (with_reducible exact Below.refl _ _) | (with_reducible assumption) | (with_reducible refine Below.drewN ?_ _) | (with_reducible refine Below.alloc ?_ ?_ _) | (with_reducible refine Below.drew ?_) | (with_reducible refine Below.setCell ?_ ?_ _) | (with_reducible refine Below.step (by assumption) ?_ ?_) | (with_reducible exact And.left (by assumption)) | go_size))
      clear hW
      have HU := Lib.hid (HU.out.below hb14)
      have y014 : w14.cell? ⟨Y, 0, none⟩ = some (.int .i64 P) := by rw [cellB hb14 _ _ lY13]; exact y013
      have y114 : w14.cell? ⟨Y, 1, none⟩ = some (.int .i64 Q) := by rw [cellB hb14 _ _ lY13]; exact y113
      have lY14 : Y < w14.heap.size := Nat.lt_of_lt_of_le lY13 hb14.size
      clear y013 y113 lY13
      have hz14 := hb14.size
      have q014 : w14.cell? ⟨w.heap.size, 0, none⟩ = some (.slice a n c) := by { rw [cellB hb14 _ _ (by first | (simp; done) | (simp; omega) | omega)]; all_goals (first | assumption | go_simp) }; have q114 : w14.cell? ⟨w.heap.size, 1, none⟩ = some (.slice a1 n c1) := by { rw [cellB hb14 _ _ (by first | (simp; done) | (simp; omega) | omega)]; all_goals (first | assumption | go_simp) }; have q214 : w14.cell? ⟨w.heap.size, 2, none⟩ = some (.slice a2 n c2) := by { rw [cellB hb14 _ _ (by first | (simp; done) | (simp; omega) | omega)]; all_goals (first | assumption | go_simp) }; have q314 : w14.cell? ⟨w.heap.size, 3, none⟩ = some (.bool g) := by { rw [cellB hb14 _ _ (by first | (simp; done) | (simp; omega) | omega)]; all_goals (first | assumption | go_simp) }; have l14 : w.heap.size < w14.heap.size := by { omega }
      have HB14 := Lib.hid (HB13.out.trans (hb14.mono HB13.out.size))
      clear hb14 hz14 q013 q113 q213 q313 l13
      refine (HRE.out _ HB14.out).mono ?_
      rintro e15 w15 ⟨hb15, hep2⟩
      have HEP2 := Lib.hid hep2
      clear hep2
      have HU := Lib.hid (HU.out.below hb15)
      have y015 : w15.cell? ⟨Y, 0, none⟩ = some (.int .i64 P) := by rw [cellB hb15 _ _ lY14]; exact y014
      have y115 : w15.cell? ⟨Y, 1, none⟩ = some (.int .i64 Q) := by rw [cellB hb15 _ _ lY14]; exact y114
      have lY15 : Y < w15.heap.size := Nat.lt_of_lt_of_le lY14 hb15.size
      clear y014 y114 lY14
      have hz15 := hb15.size
      have q015 : w15.cell? ⟨w.heap.size, 0, none⟩ = some (.slice a n c) := by { rw [cellB hb15 _ _ (by first | (simp; done) | (simp; omega) | omega)]; all_goals (first | assumption | go_simp) }; have q115 : w15.cell? ⟨w.heap.size, 1, none⟩ = some (.slice a1 n c1) := by { rw [cellB hb15 _ _ (by first | (simp; done) | (simp; omega) | omega)]; all_goals (first | assumption | go_simp) }; have q215 : w15.cell? ⟨w.heap.size, 2, none⟩ = some (.slice a2 n c2) := by { rw [cellB hb15 _ _ (by first | (simp; done) | (simp; omega) | omega)]; all_goals (first | assumption | go_simp) }; have q315 : w15.cell? ⟨w.heap.size, 3, none⟩ = some (.bool g) := by { rw [cellB hb15 _ _ (by first | (simp; done) | (simp; omega) | omega)]; all_goals (first | assumption | go_simp) }; have l15 : w.heap.size < w15.heap.size := by { omega }
      have HB15 := Lib.hid (HB14.out.trans (hb15.mono HB14.out.size))
      clear hb15 hz15 q014 q114 q214 q314 l14
      rcases HEP2.out with ⟨hbad2, rfl⟩ | ⟨hgood2, aw, cw, rfl, hw⟩
      · rw [HGOOD.out] at hbad2; exact absurd hbad2 (by simp)
      · have HX := Lib.hid (fracsOr_yes _ _ _ _ cu _ cw _ HU.out hw)
        clear hgood2 hw
        go_wp2_with fail
        refine HX.out.mono ?_
        rintro e16 w16 ⟨rfl, hb16⟩
        have HB16 := Lib.hid (HB15.out.trans (hb16.mono HB15.out.size))
        clear hb16
        go_wp2
        go_ret
        exact ⟨rfl, HB16.out⟩
theorem sworst_walk (s e t : List Int) (a a1 a2 : Option Addr) (n c n1 c1 n2 c2 : Nat) (g : Bool) (w : World) (hs : IntsR w a n s) (he : IntsR w a1 n1 e) (ht : IntsR w a2 n2 t) :
    Calls Tryz.prog 3 #[.agg #[.slice a n c, .slice a1 n1 c1, .slice a2 n2 c2, .bool g]] w fun e' w' => e' = .returned (.bool true) ∧ Below w.heap.size w w' := by
  by_cases h : ladErr s e t = 0
  · exact sworst_main s e t a a1 a2 n c n1 c1 n2 c2 g w hs he ht h
  · cases h0 : (decide ((n : Int) ≤ 8) && decide ((n1 : Int) ≤ 8) && decide ((n2 : Int) ≤ 8))
    · exact sworst_few s e t a a1 a2 n c n1 c1 n2 c2 g w hs he ht h0
    · exact sworst_bad s e t a a1 a2 n c n1 c1 n2 c2 g w hs he ht h0 h
end Go.Proofs.YtbjgklifmillgaaGreat
