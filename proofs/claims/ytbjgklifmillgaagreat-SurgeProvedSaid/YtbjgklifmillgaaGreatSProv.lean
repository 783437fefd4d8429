import Derived.Test.YtbjgklifmillgaaGreatMSch
import Derived.Test.YtbjgklifmillgaaGreatRChkI
/- The statement SurgeProved: the walk. -/
namespace Go.Proofs.YtbjgklifmillgaaGreat
open Go.RowKit
set_option linter.unusedVariables false

set_option maxRecDepth 100000 in
theorem rcheckInitial_shape (s e : List Int) (a a1 a2 a3 : Option Addr) (n c c1 n2 c2 m c3 L : Nat) (g : Bool) (w : World) (hs : IntsR w a n s) (he : IntsR w a1 n e)
    (h : Lad s e g n L) (hm : m ≠ n + 1) :
    Calls Tryz.prog 17 #[.agg #[.slice a n c, .slice a1 n c1, .slice a2 n2 c2, .bool g], .slice a3 m c3] w fun e' w' => e' = .returned (.tuple #[.int .i64 0, .int .i64 10]) ∧ Below w.heap.size w w' := by
  have HIN := Lib.hid (fun (v : World) (hb : Below w.heap.size w v) => rinitial_any s e a a1 a2 n c c1 n2 c2 L g v (hs.below hb) (he.below hb) h)
  have hn6 := h.n6
  clear hs he h
  go_enter Tryz.func17, Tryz.ntmps17
  go_wp2_with fail
  refine (HIN.out _ (by (repeat' (first | (with_reducible exact Below.refl _ _) | (with_reducible assumption) | (with_reducible refine Below.drewN ?_ _) | (with_reducible refine Below.alloc ?_ ?_ _) | (with_reducible refine Below.drew ?_) | (with_reducible refine Below.setCell ?_ ?_ _) | (with_reducible refine Below.step (by assumption) ?_ ?_) | (with_reducible exact And.left (by assumption)) | go_size)))).mono ?_
  rintro e5 w5 ⟨aq, cq, rfl, hb5, ys, hsq, heq⟩
  have HB5 := Lib.hid (show Below w.heap.size w w5 by (repeat' (first | (with_reducible exact Below.refl _ _) | (with_reducible assumption) | (with_reducible refine Below.drewN ?_ _) | (with_reducible refine Below.alloc ?_ ?_ _) | (with_reducible refine Below.drew ?_) | (with_reducible refine Below.setCell ?_ ?_ _) | (with_reducible refine Below.step (by assumption) ?_ ?_) | (with_reducible exact And.left (by assumption)) | go_size)))
  have hne : ((m : Int) != (n : Int) + 1) = true := by simp; omega
  clear hb5 HIN hsq heq hm
  go_wp2
  go_ret2
  exact ⟨rfl, HB5.out⟩
theorem sprov_few (s e t : List Int) (a a1 a2 a3 : Option Addr) (n c n1 c1 n2 c2 m c3 : Nat) (g : Bool) (w : World) (hs : IntsR w a n s) (he : IntsR w a1 n1 e) (ht : IntsR w a2 n2 t) (h0 : (decide ((n : Int) ≤ 8) && decide ((n1 : Int) ≤ 8) && decide ((n2 : Int) ≤ 8)) = false) :
    Calls Tryz.prog 4 #[.agg #[.slice a n c, .slice a1 n1 c1, .slice a2 n2 c2, .bool g], .slice a3 m c3] w fun e' w' => e' = .returned (.bool true) ∧ Below w.heap.size w w' := by
  have HFS := Lib.hid (fun w' => few_any a a1 a2 n c n1 c1 n2 c2 g w' hs.small he.small ht.small)
  rw [h0] at HFS
  clear hs he ht h0
  go_enter Tryz.func4, Tryz.ntmps4
  go_wp2_with fail
  refine (awake_any _).mono ?_
  rintro e5 w5 ⟨rfl, hb5⟩
  have hz5 := hb5.size
  simp only [World.size_alloc] at hz5
  have q05 : w5.cell? ⟨w.heap.size, 0, none⟩ = some (.slice a n c) := by { rw [cellB hb5 _ _ (by first | (simp; done) | (simp; omega) | omega)]; all_goals (first | assumption | go_simp) }; have q15 : w5.cell? ⟨w.heap.size, 1, none⟩ = some (.slice a1 n1 c1) := by { rw [cellB hb5 _ _ (by first | (simp; done) | (simp; omega) | omega)]; all_goals (first | assumption | go_simp) }; have q25 : w5.cell? ⟨w.heap.size, 2, none⟩ = some (.slice a2 n2 c2) := by { rw [cellB hb5 _ _ (by first | (simp; done) | (simp; omega) | omega)]; all_goals (first | assumption | go_simp) }; have q35 : w5.cell? ⟨w.heap.size, 3, none⟩ = some (.bool g) := by { rw [cellB hb5 _ _ (by first | (simp; done) | (simp; omega) | omega)]; all_goals (first | assumption | go_simp) }; have l5 : w.heap.size < w5.heap.size := by { omega }
  have HB5 := Lib.hid (show Below w.heap.size w w5 by (repeat' (first | (with_reducible exact Below.refl _ _) | (with_reducible assumption) | (with_reducible refine Below.drewN ?_ _) | (with_reducible refine Below.alloc ?_ ?_ _) | (with_reducible refine Below.drew ?_) | (with_reducible refine Below.setCell ?_ ?_ _) | (with_reducible refine Below.step (by assumption) ?_ ?_) | (with_reducible exact And.left (by assumption)) | go_size)))
  clear hb5 hz5
  go_wp2_with fail
  refine (HFS.out _).mono ?_
  rintro e6 w6 ⟨rfl, hb6⟩
  have hz6 := hb6.size
  have q06 : w6.cell? ⟨w.heap.size, 0, none⟩ = some (.slice a n c) := by { rw [cellB hb6 _ _ (by first | (simp; done) | (simp; omega) | omega)]; all_goals (first | assumption | go_simp) }; have q16 : w6.cell? ⟨w.heap.size, 1, none⟩ = some (.slice a1 n1 c1) := by { rw [cellB hb6 _ _ (by first | (simp; done) | (simp; omega) | omega)]; all_goals (first | assumption | go_simp) }; have q26 : w6.cell? ⟨w.heap.size, 2, none⟩ = some (.slice a2 n2 c2) := by { rw [cellB hb6 _ _ (by first | (simp; done) | (simp; omega) | omega)]; all_goals (first | assumption | go_simp) }; have q36 : w6.cell? ⟨w.heap.size, 3, none⟩ = some (.bool g) := by { rw [cellB hb6 _ _ (by first | (simp; done) | (simp; omega) | omega)]; all_goals (first | assumption | go_simp) }; have l6 : w.heap.size < w6.heap.size := by { omega }
  have HB6 := Lib.hid (HB5.out.trans (hb6.mono HB5.out.size))
  clear hb6 hz6 q05 q15 q25 q35 l5
  go_wp2
  go_ret
  exact ⟨rfl, HB6.out⟩
theorem sprov_many (s e t : List Int) (a a1 a2 a3 : Option Addr) (n c n1 c1 n2 c2 m c3 : Nat) (g : Bool) (w : World) (hs : IntsR w a n s) (he : IntsR w a1 n1 e) (ht : IntsR w a2 n2 t) (h0 : (decide ((n : Int) ≤ 8) && decide ((n1 : Int) ≤ 8) && decide ((n2 : Int) ≤ 8)) = true) (hm : 10 < m) :
    Calls Tryz.prog 4 #[.agg #[.slice a n c, .slice a1 n1 c1, .slice a2 n2 c2, .bool g], .slice a3 m c3] w fun e' w' => e' = .returned (.bool true) ∧ Below w.heap.size w w' := by
  have HFS := Lib.hid (fun w' => few_any a a1 a2 n c n1 c1 n2 c2 g w' hs.small he.small ht.small)
  rw [h0] at HFS
  have hm1 : (10 : Int) < (m : Int) := by omega
  clear hs he ht h0
  go_enter Tryz.func4, Tryz.ntmps4
  go_wp2_with fail
  refine (awake_any _).mono ?_
  rintro e5 w5 ⟨rfl, hb5⟩
  have hz5 := hb5.size
  simp only [World.size_alloc] at hz5
  have q05 : w5.cell? ⟨w.heap.size, 0, none⟩ = some (.slice a n c) := by { rw [cellB hb5 _ _ (by first | (simp; done) | (simp; omega) | omega)]; all_goals (first | assumption | go_simp) }; have q15 : w5.cell? ⟨w.heap.size, 1, none⟩ = some (.slice a1 n1 c1) := by { rw [cellB hb5 _ _ (by first | (simp; done) | (simp; omega) | omega)]; all_goals (first | assumption | go_simp) }; have q25 : w5.cell? ⟨w.heap.size, 2, none⟩ = some (.slice a2 n2 c2) := by { rw [cellB hb5 _ _ (by first | (simp; done) | (simp; omega) | omega)]; all_goals (first | assumption | go_simp) }; have q35 : w5.cell? ⟨w.heap.size, 3, none⟩ = some (.bool g) := by { rw [cellB hb5 _ _ (by first | (simp; done) | (simp; omega) | omega)]; all_goals (first | assumption | go_simp) }; have l5 : w.heap.size < w5.heap.size := by { omega }
  have HB5 := Lib.hid (show Below w.heap.size w w5 by (repeat' (first | (with_reducible exact Below.refl _ _) | (with_reducible assumption) | (with_reducible refine Below.drewN ?_ _) | (with_reducible refine Below.alloc ?_ ?_ _) | (with_reducible refine Below.drew ?_) | (with_reducible refine Below.setCell ?_ ?_ _) | (with_reducible refine Below.step (by assumption) ?_ ?_) | (with_reducible exact And.left (by assumption)) | go_size)))
  clear hb5 hz5
  go_wp2_with fail
  refine (HFS.out _).mono ?_
  rintro e6 w6 ⟨rfl, hb6⟩
  have hz6 := hb6.size
  have q06 : w6.cell? ⟨w.heap.size, 0, none⟩ = some (.slice a n c) := by { rw [cellB hb6 _ _ (by first | (simp; done) | (simp; omega) | omega)]; all_goals (first | assumption | go_simp) }; have q16 : w6.cell? ⟨w.heap.size, 1, none⟩ = some (.slice a1 n1 c1) := by { rw [cellB hb6 _ _ (by first | (simp; done) | (simp; omega) | omega)]; all_goals (first | assumption | go_simp) }; have q26 : w6.cell? ⟨w.heap.size, 2, none⟩ = some (.slice a2 n2 c2) := by { rw [cellB hb6 _ _ (by first | (simp; done) | (simp; omega) | omega)]; all_goals (first | assumption | go_simp) }; have q36 : w6.cell? ⟨w.heap.size, 3, none⟩ = some (.bool g) := by { rw [cellB hb6 _ _ (by first | (simp; done) | (simp; omega) | omega)]; all_goals (first | assumption | go_simp) }; have l6 : w.heap.size < w6.heap.size := by { omega }
  have HB6 := Lib.hid (HB5.out.trans (hb6.mono HB5.out.size))
  clear hb6 hz6 q05 q15 q25 q35 l5
  go_wp2
  go_ret
  exact ⟨rfl, HB6.out⟩
set_option maxHeartbeats 1000000 in
set_option maxRecDepth 100000 in
theorem sprov_bad (s e t : List Int) (u : List (Int × Int)) (a a1 a2 a3 : Option Addr) (n c n1 c1 n2 c2 m c3 : Nat) (g : Bool) (w : World) (hs : IntsR w a n s) (he : IntsR w a1 n1 e) (ht : IntsR w a2 n2 t) (hu : PairsR w a3 m u) (h0 : (decide ((n : Int) ≤ 8) && decide ((n1 : Int) ≤ 8) && decide ((n2 : Int) ≤ 8)) = true) (hm : m ≤ 10) (hE : ladErr s e t ≠ 0) :
    Calls Tryz.prog 4 #[.agg #[.slice a n c, .slice a1 n1 c1, .slice a2 n2 c2, .bool g], .slice a3 m c3] w fun e' w' => e' = .returned (.bool true) ∧ Below w.heap.size w w' := by
  have hn : (n ≤ 8 ∧ n1 ≤ 8) ∧ n2 ≤ 8 := by
    rw [Bool.and_eq_true, Bool.and_eq_true, decide_eq_true_eq, decide_eq_true_eq, decide_eq_true_eq] at h0; omega
  have HFS := Lib.hid (fun w' => few_any a a1 a2 n c n1 c1 n2 c2 g w' hs.small he.small ht.small)
  rw [h0] at HFS
  have HCL := Lib.hid (fun (v : World) (hv : Below w.heap.size w v) => copyLadder_any s e t a a1 a2 n c n1 c1 n2 c2 g v (hs.below hv) (he.below hv) (ht.below hv) (by omega) (by omega) (by omega))
  have HCF := Lib.hid (fun (v : World) (hv : Below w.heap.size w v) => copyFracs_any u a3 m c3 v (hu.below hv) (by omega))
  have HCI := Lib.hid (fun (v : World) a4 c4 a5 c5 a6 c6 a7 c7 (h1 : IntsR v a4 n s) (h2 : IntsR v a5 n1 e) (h3 : IntsR v a6 n2 t) (h4 : PairsR v a7 m u) => checkInitial_bad s e t a4 a5 a6 a7 n c4 n1 c5 n2 c6 m c7 g v h1 h2 h3 hE (by omega))
  have HLE := Lib.hid (fun (v : World) (hv : Below w.heap.size w v) => rladderErr_any s e t a a1 a2 n c n1 c1 n2 c2 g v (hs.below hv) (he.below hv) (ht.below hv))
  generalize ladErr s e t = E at *
  have hE1 : (E != 0) = true := by simpa using hE
  have hE3 : (E == E) = true := by simp
  have hm1 : (m : Int) ≤ 10 := by omega
  clear hs he ht hu h0 hE hn hm
  go_enter Tryz.func4, Tryz.ntmps4
  go_wp2_with fail
  refine (awake_any _).mono ?_
  rintro e5 w5 ⟨rfl, hb5⟩
  have hz5 := hb5.size
  simp only [World.size_alloc] at hz5
  have q05 : w5.cell? ⟨w.heap.size, 0, none⟩ = some (.slice a n c) := by { rw [cellB hb5 _ _ (by first | (simp; done) | (simp; omega) | omega)]; all_goals (first | assumption | go_simp) }; have q15 : w5.cell? ⟨w.heap.size, 1, none⟩ = some (.slice a1 n1 c1) := by { rw [cellB hb5 _ _ (by first | (simp; done) | (simp; omega) | omega)]; all_goals (first | assumption | go_simp) }; have q25 : w5.cell? ⟨w.heap.size, 2, none⟩ = some (.slice a2 n2 c2) := by { rw [cellB hb5 _ _ (by first | (simp; done) | (simp; omega) | omega)]; all_goals (first | assumption | go_simp) }; have q35 : w5.cell? ⟨w.heap.size, 3, none⟩ = some (.bool g) := by { rw [cellB hb5 _ _ (by first | (simp; done) | (simp; omega) | omega)]; all_goals (first | assumption | go_simp) }; have l5 : w.heap.size < w5.heap.size := by { omega }
  have HB5 := Lib.hid (show Below w.heap.size w w5 by (repeat' (first | (with_reducible exact Below.refl _ _) | (with_reducible assumption) | (with_reducible refine Below.drewN ?_ _) | (with_reducible refine Below.alloc ?_ ?_ _) | (with_reducible refine Below.drew ?_) | (with_reducible refine Below.setCell ?_ ?_ _) | (with_reducible refine Below.step (by assumption) ?_ ?_) | (with_reducible exact And.left (by assumption)) | go_size)))
  clear hb5 hz5
  go_wp2_with fail
  refine (HFS.out _).mono ?_
  rintro e6 w6 ⟨rfl, hb6⟩
  have hz6 := hb6.size
  have q06 : w6.cell? ⟨w.heap.size, 0, none⟩ = some (.slice a n c) := by { rw [cellB hb6 _ _ (by first | (simp; done) | (simp; omega) | omega)]; all_goals (first | assumption | go_simp) }; have q16 : w6.cell? ⟨w.heap.size, 1, none⟩ = some (.slice a1 n1 c1) := by { rw [cellB hb6 _ _ (by first | (simp; done) | (simp; omega) | omega)]; all_goals (first | assumption | go_simp) }; have q26 : w6.cell? ⟨w.heap.size, 2, none⟩ = some (.slice a2 n2 c2) := by { rw [cellB hb6 _ _ (by first | (simp; done) | (simp; omega) | omega)]; all_goals (first | assumption | go_simp) }; have q36 : w6.cell? ⟨w.heap.size, 3, none⟩ = some (.bool g) := by { rw [cellB hb6 _ _ (by first | (simp; done) | (simp; omega) | omega)]; all_goals (first | assumption | go_simp) }; have l6 : w.heap.size < w6.heap.size := by { omega }
  have HB6 := Lib.hid (HB5.out.trans (hb6.mono HB5.out.size))
  clear hb6 hz6 q05 q15 q25 q35 l5
  go_wp2_with fail
  refine (HCL.out _ HB6.out).mono ?_
  rintro e7 w7 ⟨a4, c4, a5, c5, a6, c6, rfl, hb7, h1, h2, h3⟩
  have HC3 := Lib.hid (And.intro h1 (And.intro h2 h3))
  clear h1 h2 h3
  have hz7 := hb7.size
  have q07 : w7.cell? ⟨w.heap.size, 0, none⟩ = some (.slice a n c) := by { rw [cellB hb7 _ _ (by first | (simp; done) | (simp; omega) | omega)]; all_goals (first | assumption | go_simp) }; have q17 : w7.cell? ⟨w.heap.size, 1, none⟩ = some (.slice a1 n1 c1) := by { rw [cellB hb7 _ _ (by first | (simp; done) | (simp; omega) | omega)]; all_goals (first | assumption | go_simp) }; have q27 : w7.cell? ⟨w.heap.size, 2, none⟩ = some (.slice a2 n2 c2) := by { rw [cellB hb7 _ _ (by first | (simp; done) | (simp; omega) | omega)]; all_goals (first | assumption | go_simp) }; have q37 : w7.cell? ⟨w.heap.size, 3, none⟩ = some (.bool g) := by { rw [cellB hb7 _ _ (by first | (simp; done) | (simp; omega) | omega)]; all_goals (first | assumption | go_simp) }; have l7 : w.heap.size < w7.heap.size := by { omega }
  have HB7 := Lib.hid (HB6.out.trans (hb7.mono HB6.out.size))
  clear hb7 hz7 q06 q16 q26 q36 l6
  go_wp2_with fail
  refine (HCF.out _ HB7.out).mono ?_
  rintro e8 w8 ⟨a7, c7, rfl, hb8, ho⟩
  have HX := Lib.hid (HCI.out _ _ c4 _ c5 _ c6 _ c7 (HC3.out.1.below hb8) (HC3.out.2.1.below hb8) (HC3.out.2.2.below hb8) (SlR.of_owns ho))
  clear ho HC3 HCI HCF
  have hz8 := hb8.size
  have q08 : w8.cell? ⟨w.heap.size, 0, none⟩ = some (.slice a n c) := by { rw [cellB hb8 _ _ (by first | (simp; done) | (simp; omega) | omega)]; all_goals (first | assumption | go_simp) }; have q18 : w8.cell? ⟨w.heap.size, 1, none⟩ = some (.slice a1 n1 c1) := by { rw [cellB hb8 _ _ (by first | (simp; done) | (simp; omega) | omega)]; all_goals (first | assumption | go_simp) }; have q28 : w8.cell? ⟨w.heap.size, 2, none⟩ = some (.slice a2 n2 c2) := by { rw [cellB hb8 _ _ (by first | (simp; done) | (simp; omega) | omega)]; all_goals (first | assumption | go_simp) }; have q38 : w8.cell? ⟨w.heap.size, 3, none⟩ = some (.bool g) := by { rw [cellB hb8 _ _ (by first | (simp; done) | (simp; omega) | omega)]; all_goals (first | assumption | go_simp) }; have l8 : w.heap.size < w8.heap.size := by { omega }
  have HB8 := Lib.hid (HB7.out.trans (hb8.mono HB7.out.size))
  clear hb8 hz8 q07 q17 q27 q37 l7
  go_wp2_with fail
  refine HX.out.mono ?_
  rintro e9 w9 ⟨rfl, hb9⟩
  have hz9 := hb9.size
  have q09 : w9.cell? ⟨w.heap.size, 0, none⟩ = some (.slice a n c) := by { rw [cellB hb9 _ _ (by first | (simp; done) | (simp; omega) | omega)]; all_goals (first | assumption | go_simp) }; have q19 : w9.cell? ⟨w.heap.size, 1, none⟩ = some (.slice a1 n1 c1) := by { rw [cellB hb9 _ _ (by first | (simp; done) | (simp; omega) | omega)]; all_goals (first | assumption | go_simp) }; have q29 : w9.cell? ⟨w.heap.size, 2, none⟩ = some (.slice a2 n2 c2) := by { rw [cellB hb9 _ _ (by first | (simp; done) | (simp; omega) | omega)]; all_goals (first | assumption | go_simp) }; have q39 : w9.cell? ⟨w.heap.size, 3, none⟩ = some (.bool g) := by { rw [cellB hb9 _ _ (by first | (simp; done) | (simp; omega) | omega)]; all_goals (first | assumption | go_simp) }; have l9 : w.heap.size < w9.heap.size := by { omega }
  have HB9 := Lib.hid (HB8.out.trans (hb9.mono HB8.out.size))
  clear hb9 hz9 q08 q18 q28 q38 l8
  clear HX
  go_wp2_with fail
  refine (HLE.out _ HB9.out).mono ?_
  rintro e10 w10 ⟨rfl, hb10⟩
  have HB10 := Lib.hid (HB9.out.trans (hb10.mono HB9.out.size))
  clear hb10
  go_wp2
  go_ret
  exact ⟨rfl, HB10.out⟩
set_option maxHeartbeats 1000000 in
set_option maxRecDepth 100000 in
theorem sprov_main (s e t : List Int) (u : List (Int × Int)) (a a1 a2 a3 : Option Addr) (n c n1 c1 n2 c2 m c3 : Nat) (g : Bool) (w : World) (hs : IntsR w a n s) (he : IntsR w a1 n1 e) (ht : IntsR w a2 n2 t) (hu : PairsR w a3 m u) (hm : m ≤ 10) (h0 : ladErr s e t = 0)
    (hub : ∀ i, i < m → -9223372036854775808 ≤ (gp u i).1 ∧ (gp u i).1 ≤ 9223372036854775807 ∧ (gp u i).2 ≤ 9223372036854775807) :
    Calls Tryz.prog 4 #[.agg #[.slice a n c, .slice a1 n1 c1, .slice a2 n2 c2, .bool g], .slice a3 m c3] w fun e' w' => e' = .returned (.bool true) ∧ Below w.heap.size w w' := by
  obtain ⟨hl0, hel, htl, h6, bs, be, _⟩ := ladErr_zero h0
  have hsl := hs.len
  have hel2 := he.len
  have htl2 := ht.len
  rw [hsl] at hl0 h6 hel htl
  obtain ⟨L, hL⟩ : ∃ L : Nat, lastOf n g = L := by
    unfold lastOf
    split
    · exact ⟨n - 1, by omega⟩
    · exact ⟨n, rfl⟩
  have hnn : n1 = n ∧ n2 = n := by omega
  have hlad : Lad s e g n L := ⟨hl0, h6, hsl, by omega, bs, be, hL⟩
  have HFS := Lib.hid (fun w' => few_any a a1 a2 n c n1 c1 n2 c2 g w' (by omega) (by omega) (by omega))
  rw [show (decide ((n : Int) ≤ 8) && decide ((n1 : Int) ≤ 8) && decide ((n2 : Int) ≤ 8)) = true by simp; omega] at HFS
  have HCL := Lib.hid (fun (v : World) (hv : Below w.heap.size w v) => copyLadder_any s e t a a1 a2 n c n1 c1 n2 c2 g v (hs.below hv) (he.below hv) (ht.below hv) (by omega) (by omega) (by omega))
  have HCF := Lib.hid (fun (v : World) (hv : Below w.heap.size w v) => copyFracs_any u a3 m c3 v (hu.below hv) (by omega))
  have HCI : Hid (∃ (I E : Int), (∀ (v : World) a4 c4 a5 c5 a6 c6 a7 c7 (h1 : IntsR v a4 n s) (h2 : IntsR v a5 n1 e) (h3 : IntsR v a6 n2 t) (h4 : PairsR v a7 m u), Calls Tryz.prog 15 #[.agg #[.slice a4 n c4, .slice a5 n1 c5, .slice a6 n2 c6, .bool g], .slice a7 m c7] v fun e' w' => e' = .returned (.tuple #[.int .i64 I, .int .i64 E]) ∧ Below v.heap.size v w') ∧
      (∀ (v : World) (hv : Below w.heap.size w v), Calls Tryz.prog 17 #[.agg #[.slice a n c, .slice a1 n1 c1, .slice a2 n2 c2, .bool g], .slice a3 m c3] v fun e' w' => e' = .returned (.tuple #[.int .i64 I, .int .i64 E]) ∧ Below v.heap.size v w')) := by
    refine Lib.hid ?_
    by_cases hmn : m = n + 1
    · have hex : ∃ I E, CkPost (fun j => frE (gp u j).1 (gp u j).2) (hold s e u g n) m I E := by
        by_cases h1 : ∀ k, k < m → frE (gp u k).1 (gp u k).2 = 0
        · by_cases h2 : ∀ k, k < m → hold s e u g n k = true
          · exact ⟨0, 0, .inr (.inr ⟨h1, h2, rfl, rfl⟩)⟩
          · obtain ⟨j, hj, hf, hmin⟩ := first_not (p := fun k => hold s e u g n k) h2
            exact ⟨j, 19, .inr (.inl ⟨h1, j, hj, hmin, by simpa using hf, rfl, rfl⟩)⟩
        · obtain ⟨j, hj, hf, hmin⟩ := first_not (p := fun k => frE (gp u k).1 (gp u k).2 == 0) (m := m) (fun hh => h1 (fun k hk => by simpa using hh k hk))
          exact ⟨j, _, .inl ⟨j, hj, fun k hk => by simpa using hmin k hk, by simpa using hf, rfl, rfl⟩⟩
      obtain ⟨I, E, hIE⟩ := hex
      refine ⟨I, E, fun v a4 c4 a5 c5 a6 c6 a7 c7 h1 h2 h3 h4 => (checkInitial_full s e t u a4 a5 a6 a7 n c4 n1 c5 n2 c6 m c7 g v h1 h2 h3 h4 h0 hmn hub).mono ?_, fun v hv => ?_⟩
      · rintro e' w' ⟨hb, i, E', rfl, hc⟩
        obtain ⟨rfl, rfl⟩ := hc.one hIE
        exact ⟨rfl, hb⟩
      · obtain ⟨rfl, rfl⟩ := hnn
        refine (rcheckInitial_full s e u a a1 a2 a3 _ c c1 _ c2 m c3 L g v (hs.below hv) (he.below hv) (hu.below hv) hlad hmn hub).mono ?_
        rintro e' w' ⟨hb, i, E', rfl, hc⟩
        obtain ⟨rfl, rfl⟩ := hc.one hIE
        exact ⟨rfl, hb⟩
    · refine ⟨0, 10, fun v a4 c4 a5 c5 a6 c6 a7 c7 h1 h2 h3 h4 => checkInitial_shape s e t a4 a5 a6 a7 n c4 n1 c5 n2 c6 m c7 g v h1 h2 h3 h0 hmn h6, fun v hv => ?_⟩
      obtain ⟨rfl, rfl⟩ := hnn
      exact rcheckInitial_shape s e a a1 a2 a3 _ c c1 _ c2 m c3 L g v (hs.below hv) (he.below hv) hlad hmn
  obtain ⟨I, E, h1, h2⟩ := HCI.out
  have HCI := Lib.hid h1
  have HRC := Lib.hid h2
  have HLE := Lib.hid (fun (v : World) (hv : Below w.heap.size w v) => rladderErr_any s e t a a1 a2 n c n1 c1 n2 c2 g v (hs.below hv) (he.below hv) (ht.below hv))
  rw [h0] at HLE
  have hm1 : (m : Int) ≤ 10 := by omega
  have hE3 : (E == E) = true := by simp
  have hI3 : (I == I) = true := by simp
  clear hs he ht hu h0 hub bs be hsl hel htl hel2 htl2 hlad hL hnn h1 h2 hm
  go_enter Tryz.func4, Tryz.ntmps4
  go_wp2_with fail
  refine (awake_any _).mono ?_
  rintro e5 w5 ⟨rfl, hb5⟩
  have hz5 := hb5.size
  simp only [World.size_alloc] at hz5
  have q05 : w5.cell? ⟨w.heap.size, 0, none⟩ = some (.slice a n c) := by { rw [cellB hb5 _ _ (by first | (simp; done) | (simp; omega) | omega)]; all_goals (first | assumption | go_simp) }; have q15 : w5.cell? ⟨w.heap.size, 1, none⟩ = some (.slice a1 n1 c1) := by { rw [cellB hb5 _ _ (by first | (simp; done) | (simp; omega) | omega)]; all_goals (first | assumption | go_simp) }; have q25 : w5.cell? ⟨w.heap.size, 2, none⟩ = some (.slice a2 n2 c2) := by { rw [cellB hb5 _ _ (by first | (simp; done) | (simp; omega) | omega)]; all_goals (first | assumption | go_simp) }; have q35 : w5.cell? ⟨w.heap.size, 3, none⟩ = some (.bool g) := by { rw [cellB hb5 _ _ (by first | (simp; done) | (simp; omega) | omega)]; all_goals (first | assumption | go_simp) }; have l5 : w.heap.size < w5.heap.size := by { omega }
  have HB5 := Lib.hid (show Below w.heap.size w w5 by (repeat' (first | (with_reducible exact Below.refl _ _) | (with_reducible assumption) | (with_reducible refine Below.drewN ?_ _) | (with_reducible refine Below.alloc ?_ ?_ _) | (with_reducible refine Below.drew ?_) | (with_reducible refine Below.setCell ?_ ?_ _) | (with_reducible refine Below.step (by assumption) ?_ ?_) | (with_reducible exact And.left (by assumption)) | go_size)))
  clear hb5 hz5
  go_wp2_with fail
  refine (HFS.out _).mono ?_
  rintro e6 w6 ⟨rfl, hb6⟩
  have hz6 := hb6.size
  have q06 : w6.cell? ⟨w.heap.size, 0, none⟩ = some (.slice a n c) := by { rw [cellB hb6 _ _ (by first | (simp; done) | (simp; omega) | omega)]; all_goals (first | assumption | go_simp) }; have q16 : w6.cell? ⟨w.heap.size, 1, none⟩ = some (.slice a1 n1 c1) := by { rw [cellB hb6 _ _ (by first | (simp; done) | (simp; omega) | omega)]; all_goals (first | assumption | go_simp) }; have q26 : w6.cell? ⟨w.heap.size, 2, none⟩ = some (.slice a2 n2 c2) := by { rw [cellB hb6 _ _ (by first | (simp; done) | (simp; omega) | omega)]; all_goals (first | assumption | go_simp) }; have q36 : w6.cell? ⟨w.heap.size, 3, none⟩ = some (.bool g) := by { rw [cellB hb6 _ _ (by first | (simp; done) | (simp; omega) | omega)]; all_goals (first | assumption | go_simp) }; have l6 : w.heap.size < w6.heap.size := by { omega }
  have HB6 := Lib.hid (HB5.out.trans (hb6.mono HB5.out.size))
  clear hb6 hz6 q05 q15 q25 q35 l5
  go_wp2_with fail
  refine (HCL.out _ HB6.out).mono ?_
  rintro e7 w7 ⟨a4, c4, a5, c5, a6, c6, rfl, hb7, h1, h2, h3⟩
  have HC3 := Lib.hid (And.intro h1 (And.intro h2 h3))
  clear h1 h2 h3
  have hz7 := hb7.size
  have q07 : w7.cell? ⟨w.heap.size, 0, none⟩ = some (.slice a n c) := by { rw [cellB hb7 _ _ (by first | (simp; done) | (simp; omega) | omega)]; all_goals (first | assumption | go_simp) }; have q17 : w7.cell? ⟨w.heap.size, 1, none⟩ = some (.slice a1 n1 c1) := by { rw [cellB hb7 _ _ (by first | (simp; done) | (simp; omega) | omega)]; all_goals (first | assumption | go_simp) }; have q27 : w7.cell? ⟨w.heap.size, 2, none⟩ = some (.slice a2 n2 c2) := by { rw [cellB hb7 _ _ (by first | (simp; done) | (simp; omega) | omega)]; all_goals (first | assumption | go_simp) }; have q37 : w7.cell? ⟨w.heap.size, 3, none⟩ = some (.bool g) := by { rw [cellB hb7 _ _ (by first | (simp; done) | (simp; omega) | omega)]; all_goals (first | assumption | go_simp) }; have l7 : w.heap.size < w7.heap.size := by { omega }
  have HB7 := Lib.hid (HB6.out.trans (hb7.mono HB6.out.size))
  clear hb7 hz7 q06 q16 q26 q36 l6
  go_wp2_with fail
  refine (HCF.out _ HB7.out).mono ?_
  rintro e8 w8 ⟨a7, c7, rfl, hb8, ho⟩
  have HX := Lib.hid (HCI.out _ _ c4 _ c5 _ c6 _ c7 (HC3.out.1.below hb8) (HC3.out.2.1.below hb8) (HC3.out.2.2.below hb8) (SlR.of_owns ho))
  clear ho HC3 HCI HCF
  have hz8 := hb8.size
  have q08 : w8.cell? ⟨w.heap.size, 0, none⟩ = some (.slice a n c) := by { rw [cellB hb8 _ _ (by first | (simp; done) | (simp; omega) | omega)]; all_goals (first | assumption | go_simp) }; have q18 : w8.cell? ⟨w.heap.size, 1, none⟩ = some (.slice a1 n1 c1) := by { rw [cellB hb8 _ _ (by first | (simp; done) | (simp; omega) | omega)]; all_goals (first | assumption | go_simp) }; have q28 : w8.cell? ⟨w.heap.size, 2, none⟩ = some (.slice a2 n2 c2) := by { rw [cellB hb8 _ _ (by first | (simp; done) | (simp; omega) | omega)]; all_goals (first | assumption | go_simp) }; have q38 : w8.cell? ⟨w.heap.size, 3, none⟩ = some (.bool g) := by { rw [cellB hb8 _ _ (by first | (simp; done) | (simp; omega) | omega)]; all_goals (first | assumption | go_simp) }; have l8 : w.heap.size < w8.heap.size := by { omega }
  have HB8 := Lib.hid (HB7.out.trans (hb8.mono HB7.out.size))
  clear hb8 hz8 q07 q17 q27 q37 l7
  go_wp2_with fail
  refine HX.out.mono ?_
  rintro e9 w9 ⟨rfl, hb9⟩
  have hz9 := hb9.size
  have q09 : w9.cell? ⟨w.heap.size, 0, none⟩ = some (.slice a n c) := by { rw [cellB hb9 _ _ (by first | (simp; done) | (simp; omega) | omega)]; all_goals (first | assumption | go_simp) }; have q19 : w9.cell? ⟨w.heap.size, 1, none⟩ = some (.slice a1 n1 c1) := by { rw [cellB hb9 _ _ (by first | (simp; done) | (simp; omega) | omega)]; all_goals (first | assumption | go_simp) }; have q29 : w9.cell? ⟨w.heap.size, 2, none⟩ = some (.slice a2 n2 c2) := by { rw [cellB hb9 _ _ (by first | (simp; done) | (simp; omega) | omega)]; all_goals (first | assumption | go_simp) }; have q39 : w9.cell? ⟨w.heap.size, 3, none⟩ = some (.bool g) := by { rw [cellB hb9 _ _ (by first | (simp; done) | (simp; omega) | omega)]; all_goals (first | assumption | go_simp) }; have l9 : w.heap.size < w9.heap.size := by { omega }
  have HB9 := Lib.hid (HB8.out.trans (hb9.mono HB8.out.size))
  clear hb9 hz9 q08 q18 q28 q38 l8
  clear HX
  go_wp2_with fail
  refine (HLE.out _ HB9.out).mono ?_
  rintro e10 w10 ⟨rfl, hb10⟩
  have hz10 := hb10.size
  have q010 : w10.cell? ⟨w.heap.size, 0, none⟩ = some (.slice a n c) := by { rw [cellB hb10 _ _ (by first | (simp; done) | (simp; omega) | omega)]; all_goals (first | assumption | go_simp) }; have q110 : w10.cell? ⟨w.heap.size, 1, none⟩ = some (.slice a1 n1 c1) := by { rw [cellB hb10 _ _ (by first | (simp; done) | (simp; omega) | omega)]; all_goals (first | assumption | go_simp) }; have q210 : w10.cell? ⟨w.heap.size, 2, none⟩ = some (.slice a2 n2 c2) := by { rw [cellB hb10 _ _ (by first | (simp; done) | (simp; omega) | omega)]; all_goals (first | assumption | go_simp) }; have q310 : w10.cell? ⟨w.heap.size, 3, none⟩ = some (.bool g) := by { rw [cellB hb10 _ _ (by first | (simp; done) | (simp; omega) | omega)]; all_goals (first | assumption | go_simp) }; have l10 : w.heap.size < w10.heap.size := by { omega }
  have HB10 := Lib.hid (HB9.out.trans (hb10.mono HB9.out.size))
  clear hb10 hz10 q09 q19 q29 q39 l9
  go_wp2_with fail
  refine (HRC.out _ HB10.out).mono ?_
  rintro e11 w11 ⟨rfl, hb11⟩
  have HB11 := Lib.hid (HB10.out.trans (hb11.mono HB10.out.size))
  clear hb11
  go_wp2
  go_ret
  exact ⟨rfl, HB11.out⟩
theorem sprov_walk (s e t : List Int) (u : List (Int × Int)) (a a1 a2 a3 : Option Addr) (n c n1 c1 n2 c2 m c3 : Nat) (g : Bool) (w : World) (hs : IntsR w a n s) (he : IntsR w a1 n1 e) (ht : IntsR w a2 n2 t) (hu : PairsR w a3 m u)
    (hub : ∀ i, i < m → -9223372036854775808 ≤ (gp u i).1 ∧ (gp u i).1 ≤ 9223372036854775807 ∧ (gp u i).2 ≤ 9223372036854775807) :
    Calls Tryz.prog 4 #[.agg #[.slice a n c, .slice a1 n1 c1, .slice a2 n2 c2, .bool g], .slice a3 m c3] w fun e' w' => e' = .returned (.bool true) ∧ Below w.heap.size w w' := by
  cases h0 : (decide ((n : Int) ≤ 8) && decide ((n1 : Int) ≤ 8) && decide ((n2 : Int) ≤ 8))
  · exact sprov_few s e t a a1 a2 a3 n c n1 c1 n2 c2 m c3 g w hs he ht h0
  · rcases Nat.lt_or_ge 10 m with hm | hm
    · exact sprov_many s e t a a1 a2 a3 n c n1 c1 n2 c2 m c3 g w hs he ht h0 hm
    · by_cases h : ladErr s e t = 0
      · exact sprov_main s e t u a a1 a2 a3 n c n1 c1 n2 c2 m c3 g w hs he ht hu hm h hub
      · exact sprov_bad s e t u a a1 a2 a3 n c n1 c1 n2 c2 m c3 g w hs he ht hu h0 hm h
end Go.Proofs.YtbjgklifmillgaaGreat
