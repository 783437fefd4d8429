import Derived.Test.YtphgacledebolaaDist
import Derived.Test.YtphgacledebolaaFracsEq
import Derived.Test.YtphgacledebolaaLadLib
import Derived.Test.YtphgacledebolaaMFin
import Derived.Test.YtphgacledebolaaMFr
/- Parts of the statement SurgeInitial: the reference's initial distribution, and fracsOr. -/
namespace Go.Proofs.Ytphgacledebolaa
open Go.RowKit
set_option linter.unusedVariables false

set_option maxRecDepth 100000 in
theorem rinitial_any (s e : List Int) (a a1 a2 : Option Addr) (n c c1 n2 c2 L : Nat) (g : Bool) (w : World) (hs : IntsR w a n s) (he : IntsR w a1 n e) (h : Lad s e g n L) :
    Calls Try.prog 35 #[.agg #[.slice a n c, .slice a1 n c1, .slice a2 n2 c2, .bool g]] w fun e' w' => ∃ a' c', e' = .returned (.slice a' (n + 1) c') ∧ Below w.heap.size w w' ∧ ∃ ys, SlR w' a' (n + 1) 4 ys ∧ ∀ k, k < n + 1 → EntL (fun b => b < w'.heap.size) w' ys k (((nu s e L k : Int) : Rat) / ((dd s e L L : Int) : Rat)) := by
  have HD := Lib.hid (fun (w' : World) (hb : Below w.heap.size w w') => dist_any s e a a1 n c c1 L g w' (hs.below hb) (he.below hb) h)
  clear hs he h
  go_enter Try.func35, Try.ntmps35
  go_wp2_with fail
  generalize hW : World.alloc _ _ = w5 at *
  have hb5 : Below w.heap.size w w5 := by rw [← hW]; (repeat' (first | (with_reducible exact Below.refl _ _) | (with_reducible assumption) | (with_reducible refine Below.drewN ?_ _) | (with_reducible refine Below.alloc ?_ ?_ _) | (with_reducible refine Below.drew ?_) | (with_reducible refine Below.setCell ?_ ?_ _) | (with_reducible refine Below.step (by assumption) ?_ ?_) | (with_reducible exact And.left (by assumption)) | go_size))
  clear hW
  refine (HD.out _ hb5).mono ?_
  rintro e6 w6 ⟨a', c', rfl, hb6, ys, h1, h2⟩
  have HP := Lib.hid (And.intro h1 h2)
  have HB := Lib.hid (hb5.trans (hb6.mono hb5.size))
  clear h1 h2 hb5 hb6
  go_wp2
  go_ret
  exact ⟨a', c', rfl, HB.out, ys, HP.out.1, HP.out.2⟩
theorem fracsOr_no (a' : Option Addr) (n' c' : Nat) (w : World) : Calls Try.prog 36 #[.slice none 0 0, .int .i64 8, .slice a' n' c', .bool false] w fun e' w' => e' = .returned (.bool true) ∧ Below w.heap.size w w' := by
  go_enter Try.func36, Try.ntmps36
  go_wp2
  go_ret
  exact ⟨rfl, by (repeat' (first | (with_reducible exact Below.refl _ _) | (with_reducible assumption) | (with_reducible refine Below.drewN ?_ _) | (with_reducible refine Below.alloc ?_ ?_ _) | (with_reducible refine Below.drew ?_) | (with_reducible refine Below.setCell ?_ ?_ _) | (with_reducible refine Below.step (by assumption) ?_ ?_) | (with_reducible exact And.left (by assumption)) | go_size))⟩
theorem fracsOr_yes (l : List (Int × Int)) (a a' : Option Addr) (n c n' c' : Nat) (w : World) (h : PairsR w a n l) (h' : PairsR w a' n' l) : Calls Try.prog 36 #[.slice a n c, .int .i64 0, .slice a' n' c', .bool true] w fun e' w' => e' = .returned (.bool true) ∧ Below w.heap.size w w' := by
  have HF := Lib.hid (fun (w' : World) (hb : Below w.heap.size w w') => fracs_any l l a a' n c n' c' w' (h.below hb) (h'.below hb))
  rw [show decide (l = l) = true by simp] at HF
  clear h h'
  go_enter Try.func36, Try.ntmps36
  go_wp2_with fail
  refine (HF.out _ (by (repeat' (first | (with_reducible exact Below.refl _ _) | (with_reducible assumption) | (with_reducible refine Below.drewN ?_ _) | (with_reducible refine Below.alloc ?_ ?_ _) | (with_reducible refine Below.drew ?_) | (with_reducible refine Below.setCell ?_ ?_ _) | (with_reducible refine Below.step (by assumption) ?_ ?_) | (with_reducible exact And.left (by assumption)) | go_size)))).mono ?_
  rintro e6 w6 ⟨rfl, m, rfl⟩
  go_wp2
  go_ret
  exact ⟨rfl, by (repeat' (first | (with_reducible exact Below.refl _ _) | (with_reducible assumption) | (with_reducible refine Below.drewN ?_ _) | (with_reducible refine Below.alloc ?_ ?_ _) | (with_reducible refine Below.drew ?_) | (with_reducible refine Below.setCell ?_ ?_ _) | (with_reducible refine Below.step (by assumption) ?_ ?_) | (with_reducible exact And.left (by assumption)) | go_size))⟩
end Go.Proofs.Ytphgacledebolaa

/- The statement SurgeInitial: the walk. -/
namespace Go.Proofs.Ytphgacledebolaa
open Go.RowKit
set_option linter.unusedVariables false

/-- Fractions handed out, or ErrLarge: as values. -/
def UOr (l : List (Int × Int)) (n : Nat) (w : World) (a : Option Addr) (m c : Nat) (E : Int) : Prop :=
  (l.any (fun f => !smallF f) = true ∧ a = none ∧ m = 0 ∧ c = 0 ∧ E = 8) ∨ (l.any (fun f => !smallF f) = false ∧ m = n ∧ E = 0 ∧ PairsR w a m l)
theorem UOr.below {l : List (Int × Int)} {n : Nat} {w w' : World} {a : Option Addr} {m c : Nat} {E : Int} (h : UOr l n w a m c E) (hb : Below w.heap.size w w') : UOr l n w' a m c E := by
  rcases h with h | ⟨h1, h2, h3, h4⟩
  · exact .inl h
  · exact .inr ⟨h1, h2, h3, h4.below hb⟩
theorem FrPost.uor {l : List (Int × Int)} {n : Nat} {e' : Ending} {w' : World} (h : FrPost l n e' w') : ∃ a m c E, e' = .returned (.tuple #[.slice a m c, .int .i64 E]) ∧ UOr l n w' a m c E := by
  rcases h with ⟨h1, rfl⟩ | ⟨h1, a, c, rfl, h2⟩
  · exact ⟨none, 0, 0, 8, rfl, .inl ⟨h1, rfl, rfl, rfl, rfl⟩⟩
  · exact ⟨a, n, c, 0, rfl, .inr ⟨h1, rfl, rfl, h2⟩⟩
theorem sini_few (s e t : List Int) (a a1 a2 : Option Addr) (n c n1 c1 n2 c2 : Nat) (g : Bool) (w : World) (hs : IntsR w a n s) (he : IntsR w a1 n1 e) (ht : IntsR w a2 n2 t) (h0 : (decide ((n : Int) ≤ 8) && decide ((n1 : Int) ≤ 8) && decide ((n2 : Int) ≤ 8)) = false) :
    Calls Try.prog 5 #[.agg #[.slice a n c, .slice a1 n1 c1, .slice a2 n2 c2, .bool g]] w fun e' w' => e' = .returned (.bool true) ∧ Below w.heap.size w w' := by
  have HFS := Lib.hid (fun w' => few_any a a1 a2 n c n1 c1 n2 c2 g w' hs.small he.small ht.small)
  rw [h0] at HFS
  clear hs he ht h0
  go_enter Try.func5, Try.ntmps5
  go_wp2_with fail
  refine (awake_any _).mono ?_
  rintro e5 w5 ⟨rfl, hb5⟩
  have hz5 := hb5.size
  simp only [World.size_alloc] at hz5
  have q05 : w5.cell? ⟨w.heap.size, 0, none⟩ = some (.slice a n c) := by { rw [cellB hb5 _ _ (by first | (simp; done) | (simp; omega) | omega)]; all_goals (first | assumption | go_simp) }; have q15 : w5.cell? ⟨w.heap.size, 1, none⟩ = some (.slice a1 n1 c1) := by { rw [cellB hb5 _ _ (by first | (simp; done) | (simp; omega) | omega)]; all_goals (first | assumption | go_simp) }; have q25 : w5.cell? ⟨w.heap.size, 2, none⟩ = some (.slice a2 n2 c2) := by { rw [cellB hb5 _ _ (by first | (simp; done) | (simp; omega) | omega)]; all_goals (first | assumption | go_simp) }; have q35 : w5.cell? ⟨w.heap.size, 3, none⟩ = some (.bool g) := by { rw [cellB hb5 _ _ (by first | (simp; done) | (simp; omega) | omega)]; all_goals (first | assumption | go_simp) }; have l5 : w.heap.size < w5.heap.size := by { omega }
  have HB5 := Lib.hid (show Below w.heap.size w w5 by (repeat' (first | (with_reducible exact Below.refl _ _) | (with_reducible assumption) | (with_reducible refine Below.drewN ?_ _) | (with_reducible refine Below.alloc ?_ ?_ _) | (with_reducible refine Below.drew ?_) | (with_reducible refine Below.setCell ?_ ?_ _) | (with_reducible refine Below.step (by assumption) ?_ ?_) | (with_reducible exact And.left (by assumption)) | go_size)))
  clear hb5 hz5
  go_wp2_with fail
  refine (HFS.out _).mono ?_
  rintro e6 w6 ⟨rfl, hb6⟩
  have hz6 := hb6.size
  have q06 : w6.cell? ⟨w.heap.size, 0, none⟩ = some (.slice a n c) := by { rw [cellB hb6 _ _ (by first | (simp; done) | (simp; omega) | omega)]; all_goals (first | assumption | go_simp) }; have q16 : w6.cell? ⟨w.heap.size, 1, none⟩ = some (.slice a1 n1 c1) := by { rw [cellB hb6 _ _ (by first | (simp; done) | (simp; omega) | omega)]; all_goals (first | assumption | go_simp) }; have q26 : w6.cell? ⟨w.heap.size, 2, none⟩ = some (.slice a2 n2 c2) := by { rw [cellB hb6 _ _ (by first | (simp; done) | (simp; omega) | omega)]; all_goals (first | assumption | go_simp) }; have q36 : w6.cell? ⟨w.heap.size, 3, none⟩ = some (.bool g) := by { rw [cellB hb6 _ _ (by first | (simp; done) | (simp; omega) | omega)]; all_goals (first | assumption | go_simp) }; have l6 : w.heap.size < w6.heap.size := by { omega }
  have HB6 := Lib.hid (HB5.out.trans (hb6.mono HB5.out.size))
  clear hb6 hz6 q05 q15 q25 q35 l5
  go_wp2
  go_ret
  exact ⟨rfl, HB6.out⟩
set_option maxHeartbeats 1000000 in
set_option maxRecDepth 100000 in
theorem sini_bad (s e t : List Int) (a a1 a2 : Option Addr) (n c n1 c1 n2 c2 : Nat) (g : Bool) (w : World) (hs : IntsR w a n s) (he : IntsR w a1 n1 e) (ht : IntsR w a2 n2 t) (h0 : (decide ((n : Int) ≤ 8) && decide ((n1 : Int) ≤ 8) && decide ((n2 : Int) ≤ 8)) = true) (hE : ladErr s e t ≠ 0) :
    Calls Try.prog 5 #[.agg #[.slice a n c, .slice a1 n1 c1, .slice a2 n2 c2, .bool g]] w fun e' w' => e' = .returned (.bool true) ∧ Below w.heap.size w w' := by
  have hn : (n ≤ 8 ∧ n1 ≤ 8) ∧ n2 ≤ 8 := by
    rw [Bool.and_eq_true, Bool.and_eq_true, decide_eq_true_eq, decide_eq_true_eq, decide_eq_true_eq] at h0; omega
  have HFS := Lib.hid (fun w' => few_any a a1 a2 n c n1 c1 n2 c2 g w' hs.small he.small ht.small)
  rw [h0] at HFS
  have HCL := Lib.hid (fun (v : World) (hv : Below w.heap.size w v) => copyLadder_any s e t a a1 a2 n c n1 c1 n2 c2 g v (hs.below hv) (he.below hv) (ht.below hv) (by omega) (by omega) (by omega))
  have HIO := Lib.hid (fun (v : World) a3 c3 a4 c4 a5 c5 (h1 : IntsR v a3 n s) (h2 : IntsR v a4 n1 e) (h3 : IntsR v a5 n2 t) => initialOf_bad s e t a3 a4 a5 n c3 n1 c4 n2 c5 g v h1 h2 h3 hE)
  have HFO := Lib.hid (fun (v : World) a3 c3 a4 c4 a5 c5 (h1 : IntsR v a3 n s) (h2 : IntsR v a4 n1 e) (h3 : IntsR v a5 n2 t) => finalOf_bad s e t a3 a4 a5 n c3 n1 c4 n2 c5 g v h1 h2 h3 hE)
  have HCK := Lib.hid (fun (v : World) a3 c3 a4 c4 a5 c5 (h1 : IntsR v a3 n s) (h2 : IntsR v a4 n1 e) (h3 : IntsR v a5 n2 t) => checkLadder_any s e t a3 a4 a5 n c3 n1 c4 n2 c5 g v h1 h2 h3)
  have HLE := Lib.hid (fun (v : World) (hv : Below w.heap.size w v) => rladderErr_any s e t a a1 a2 n c n1 c1 n2 c2 g v (hs.below hv) (he.below hv) (ht.below hv))
  generalize ladErr s e t = E at *
  have hE1 : (E != 0) = true := by simpa using hE
  have hE2 : (E != E) = false := by simp
  have hE3 : (E == E) = true := by simp
  clear hs he ht h0 hE hn
  go_enter Try.func5, Try.ntmps5
  go_wp2_with fail
  refine (awake_any _).mono ?_
  rintro e5 w5 ⟨rfl, hb5⟩
  have hz5 := hb5.size
  simp only [World.size_alloc] at hz5
  have q05 : w5.cell? ⟨w.heap.size, 0, none⟩ = some (.slice a n c) := by { rw [cellB hb5 _ _ (by first | (simp; done) | (simp; omega) | omega)]; all_goals (first | assumption | go_simp) }; have q15 : w5.cell? ⟨w.heap.size, 1, none⟩ = some (.slice a1 n1 c1) := by { rw [cellB hb5 _ _ (by first | (simp; done) | (simp; omega) | omega)]; all_goals (first | assumption | go_simp) }; have q25 : w5.cell? ⟨w.heap.size, 2, none⟩ = some (.slice a2 n2 c2) := by { rw [cellB hb5 _ _ (by first | (simp; done) | (simp; omega) | omega)]; all_goals (first | assumption | go_simp) }; have q35 : w5.cell? ⟨w.heap.size, 3, none⟩ = some (.bool g) := by { rw [cellB hb5 _ _ (by first | (simp; done) | (simp; omega) | omega)]; all_goals (first | assumption | go_simp) }; have l5 : w.heap.size < w5.heap.size := by { omega }
  have HB5 := Lib.hid (show Below w.heap.size w w5 by (repeat' (first | (with_reducible exact Below.refl _ _) | (with_reducible assumption) | (with_reducible refine Below.drewN ?_ _) | (with_reducible refine Below.alloc ?_ ?_ _) | (with_reducible refine Below.drew ?_) | (with_reducible refine Below.setCell ?_ ?_ _) | (with_reducible refine Below.step (by assumption) ?_ ?_) | (with_reducible exact And.left (by assumption)) | go_size)))
  clear hb5 hz5
  go_wp2_with fail
  refine (HFS.out _).mono ?_
  rintro e6 w6 ⟨rfl, hb6⟩
  have hz6 := hb6.size
  have q06 : w6.cell? ⟨w.heap.size, 0, none⟩ = some (.slice a n c) := by { rw [cellB hb6 _ _ (by first | (simp; done) | (simp; omega) | omega)]; all_goals (first | assumption | go_simp) }; have q16 : w6.cell? ⟨w.heap.size, 1, none⟩ = some (.slice a1 n1 c1) := by { rw [cellB hb6 _ _ (by first | (simp; done) | (simp; omega) | omega)]; all_goals (first | assumption | go_simp) }; have q26 : w6.cell? ⟨w.heap.size, 2, none⟩ = some (.slice a2 n2 c2) := by { rw [cellB hb6 _ _ (by first | (simp; done) | (simp; omega) | omega)]; all_goals (first | assumption | go_simp) }; have q36 : w6.cell? ⟨w.heap.size, 3, none⟩ = some (.bool g) := by { rw [cellB hb6 _ _ (by first | (simp; done) | (simp; omega) | omega)]; all_goals (first | assumption | go_simp) }; have l6 : w.heap.size < w6.heap.size := by { omega }
  have HB6 := Lib.hid (HB5.out.trans (hb6.mono HB5.out.size))
  clear hb6 hz6 q05 q15 q25 q35 l5
  go_wp2_with fail
  refine (HCL.out _ HB6.out).mono ?_
  rintro e7 w7 ⟨a3, c3, a4, c4, a5, c5, rfl, hb7, h1, h2, h3⟩
  have HX := Lib.hid (HIO.out _ _ c3 _ c4 _ c5 h1 h2 h3)
  clear h1 h2 h3
  have hz7 := hb7.size
  have q07 : w7.cell? ⟨w.heap.size, 0, none⟩ = some (.slice a n c) := by { rw [cellB hb7 _ _ (by first | (simp; done) | (simp; omega) | omega)]; all_goals (first | assumption | go_simp) }; have q17 : w7.cell? ⟨w.heap.size, 1, none⟩ = some (.slice a1 n1 c1) := by { rw [cellB hb7 _ _ (by first | (simp; done) | (simp; omega) | omega)]; all_goals (first | assumption | go_simp) }; have q27 : w7.cell? ⟨w.heap.size, 2, none⟩ = some (.slice a2 n2 c2) := by { rw [cellB hb7 _ _ (by first | (simp; done) | (simp; omega) | omega)]; all_goals (first | assumption | go_simp) }; have q37 : w7.cell? ⟨w.heap.size, 3, none⟩ = some (.bool g) := by { rw [cellB hb7 _ _ (by first | (simp; done) | (simp; omega) | omega)]; all_goals (first | assumption | go_simp) }; have l7 : w.heap.size < w7.heap.size := by { omega }
  have HB7 := Lib.hid (HB6.out.trans (hb7.mono HB6.out.size))
  clear hb7 hz7 q06 q16 q26 q36 l6
  go_wp2_with fail
  refine HX.out.mono ?_
  rintro e8 w8 ⟨rfl, hb8⟩
  have hz8 := hb8.size
  have q08 : w8.cell? ⟨w.heap.size, 0, none⟩ = some (.slice a n c) := by { rw [cellB hb8 _ _ (by first | (simp; done) | (simp; omega) | omega)]; all_goals (first | assumption | go_simp) }; have q18 : w8.cell? ⟨w.heap.size, 1, none⟩ = some (.slice a1 n1 c1) := by { rw [cellB hb8 _ _ (by first | (simp; done) | (simp; omega) | omega)]; all_goals (first | assumption | go_simp) }; have q28 : w8.cell? ⟨w.heap.size, 2, none⟩ = some (.slice a2 n2 c2) := by { rw [cellB hb8 _ _ (by first | (simp; done) | (simp; omega) | omega)]; all_goals (first | assumption | go_simp) }; have q38 : w8.cell? ⟨w.heap.size, 3, none⟩ = some (.bool g) := by { rw [cellB hb8 _ _ (by first | (simp; done) | (simp; omega) | omega)]; all_goals (first | assumption | go_simp) }; have l8 : w.heap.size < w8.heap.size := by { omega }
  have HB8 := Lib.hid (HB7.out.trans (hb8.mono HB7.out.size))
  clear hb8 hz8 q07 q17 q27 q37 l7
  clear HX
  go_wp2_with fail
  refine (HCL.out _ HB8.out).mono ?_
  rintro e9 w9 ⟨a3, c3, a4, c4, a5, c5, rfl, hb9, h1, h2, h3⟩
  have HX := Lib.hid (HFO.out _ _ c3 _ c4 _ c5 h1 h2 h3)
  clear h1 h2 h3
  have hz9 := hb9.size
  have q09 : w9.cell? ⟨w.heap.size, 0, none⟩ = some (.slice a n c) := by { rw [cellB hb9 _ _ (by first | (simp; done) | (simp; omega) | omega)]; all_goals (first | assumption | go_simp) }; have q19 : w9.cell? ⟨w.heap.size, 1, none⟩ = some (.slice a1 n1 c1) := by { rw [cellB hb9 _ _ (by first | (simp; done) | (simp; omega) | omega)]; all_goals (first | assumption | go_simp) }; have q29 : w9.cell? ⟨w.heap.size, 2, none⟩ = some (.slice a2 n2 c2) := by { rw [cellB hb9 _ _ (by first | (simp; done) | (simp; omega) | omega)]; all_goals (first | assumption | go_simp) }; have q39 : w9.cell? ⟨w.heap.size, 3, none⟩ = some (.bool g) := by { rw [cellB hb9 _ _ (by first | (simp; done) | (simp; omega) | omega)]; all_goals (first | assumption | go_simp) }; have l9 : w.heap.size < w9.heap.size := by { omega }
  have HB9 := Lib.hid (HB8.out.trans (hb9.mono HB8.out.size))
  clear hb9 hz9 q08 q18 q28 q38 l8
  go_wp2_with fail
  refine HX.out.mono ?_
  rintro e10 w10 ⟨rfl, hb10⟩
  have hz10 := hb10.size
  have q010 : w10.cell? ⟨w.heap.size, 0, none⟩ = some (.slice a n c) := by { rw [cellB hb10 _ _ (by first | (simp; done) | (simp; omega) | omega)]; all_goals (first | assumption | go_simp) }; have q110 : w10.cell? ⟨w.heap.size, 1, none⟩ = some (.slice a1 n1 c1) := by { rw [cellB hb10 _ _ (by first | (simp; done) | (simp; omega) | omega)]; all_goals (first | assumption | go_simp) }; have q210 : w10.cell? ⟨w.heap.size, 2, none⟩ = some (.slice a2 n2 c2) := by { rw [cellB hb10 _ _ (by first | (simp; done) | (simp; omega) | omega)]; all_goals (first | assumption | go_simp) }; have q310 : w10.cell? ⟨w.heap.size, 3, none⟩ = some (.bool g) := by { rw [cellB hb10 _ _ (by first | (simp; done) | (simp; omega) | omega)]; all_goals (first | assumption | go_simp) }; have l10 : w.heap.size < w10.heap.size := by { omega }
  have HB10 := Lib.hid (HB9.out.trans (hb10.mono HB9.out.size))
  clear hb10 hz10 q09 q19 q29 q39 l9
  clear HX
  go_wp2_with fail
  refine (HLE.out _ HB10.out).mono ?_
  rintro e11 w11 ⟨rfl, hb11⟩
  have hz11 := hb11.size
  have q011 : w11.cell? ⟨w.heap.size, 0, none⟩ = some (.slice a n c) := by { rw [cellB hb11 _ _ (by first | (simp; done) | (simp; omega) | omega)]; all_goals (first | assumption | go_simp) }; have q111 : w11.cell? ⟨w.heap.size, 1, none⟩ = some (.slice a1 n1 c1) := by { rw [cellB hb11 _ _ (by first | (simp; done) | (simp; omega) | omega)]; all_goals (first | assumption | go_simp) }; have q211 : w11.cell? ⟨w.heap.size, 2, none⟩ = some (.slice a2 n2 c2) := by { rw [cellB hb11 _ _ (by first | (simp; done) | (simp; omega) | omega)]; all_goals (first | assumption | go_simp) }; have q311 : w11.cell? ⟨w.heap.size, 3, none⟩ = some (.bool g) := by { rw [cellB hb11 _ _ (by first | (simp; done) | (simp; omega) | omega)]; all_goals (first | assumption | go_simp) }; have l11 : w.heap.size < w11.heap.size := by { omega }
  have HB11 := Lib.hid (HB10.out.trans (hb11.mono HB10.out.size))
  clear hb11 hz11 q010 q110 q210 q310 l10
  go_wp2_with fail
  refine (HCL.out _ HB11.out).mono ?_
  rintro e12 w12 ⟨a3, c3, a4, c4, a5, c5, rfl, hb12, h1, h2, h3⟩
  have HX := Lib.hid (HCK.out _ _ c3 _ c4 _ c5 h1 h2 h3)
  clear h1 h2 h3
  have hz12 := hb12.size
  have q012 : w12.cell? ⟨w.heap.size, 0, none⟩ = some (.slice a n c) := by { rw [cellB hb12 _ _ (by first | (simp; done) | (simp; omega) | omega)]; all_goals (first | assumption | go_simp) }; have q112 : w12.cell? ⟨w.heap.size, 1, none⟩ = some (.slice a1 n1 c1) := by { rw [cellB hb12 _ _ (by first | (simp; done) | (simp; omega) | omega)]; all_goals (first | assumption | go_simp) }; have q212 : w12.cell? ⟨w.heap.size, 2, none⟩ = some (.slice a2 n2 c2) := by { rw [cellB hb12 _ _ (by first | (simp; done) | (simp; omega) | omega)]; all_goals (first | assumption | go_simp) }; have q312 : w12.cell? ⟨w.heap.size, 3, none⟩ = some (.bool g) := by { rw [cellB hb12 _ _ (by first | (simp; done) | (simp; omega) | omega)]; all_goals (first | assumption | go_simp) }; have l12 : w.heap.size < w12.heap.size := by { omega }
  have HB12 := Lib.hid (HB11.out.trans (hb12.mono HB11.out.size))
  clear hb12 hz12 q011 q111 q211 q311 l11
  go_wp2_with fail
  refine HX.out.mono ?_
  rintro e13 w13 ⟨rfl, hb13⟩
  have hz13 := hb13.size
  have q013 : w13.cell? ⟨w.heap.size, 0, none⟩ = some (.slice a n c) := by { rw [cellB hb13 _ _ (by first | (simp; done) | (simp; omega) | omega)]; all_goals (first | assumption | go_simp) }; have q113 : w13.cell? ⟨w.heap.size, 1, none⟩ = some (.slice a1 n1 c1) := by { rw [cellB hb13 _ _ (by first | (simp; done) | (simp; omega) | omega)]; all_goals (first | assumption | go_simp) }; have q213 : w13.cell? ⟨w.heap.size, 2, none⟩ = some (.slice a2 n2 c2) := by { rw [cellB hb13 _ _ (by first | (simp; done) | (simp; omega) | omega)]; all_goals (first | assumption | go_simp) }; have q313 : w13.cell? ⟨w.heap.size, 3, none⟩ = some (.bool g) := by { rw [cellB hb13 _ _ (by first | (simp; done) | (simp; omega) | omega)]; all_goals (first | assumption | go_simp) }; have l13 : w.heap.size < w13.heap.size := by { omega }
  have HB13 := Lib.hid (HB12.out.trans (hb13.mono HB12.out.size))
  clear hb13 hz13 q012 q112 q212 q312 l12
  clear HX
  go_wp2
  go_ret
  exact ⟨rfl, HB13.out⟩
set_option maxHeartbeats 2000000 in
set_option maxRecDepth 100000 in
theorem sini_main (s e t : List Int) (a a1 a2 : Option Addr) (n c n1 c1 n2 c2 : Nat) (g : Bool) (w : World) (hs : IntsR w a n s) (he : IntsR w a1 n1 e) (ht : IntsR w a2 n2 t) (h0 : ladErr s e t = 0) :
    Calls Try.prog 5 #[.agg #[.slice a n c, .slice a1 n1 c1, .slice a2 n2 c2, .bool g]] w fun e' w' => e' = .returned (.bool true) ∧ Below w.heap.size w w' := by
  obtain ⟨hl0, hel, htl, h6, bs, be, bt⟩ := ladErr_zero h0
  have hsl := hs.len
  have hel2 := he.len
  have htl2 := ht.len
  rw [hsl] at hl0 h6 hel htl
  obtain rfl : n = n1 := by omega
  obtain rfl : n = n2 := by omega
  obtain ⟨L, hL⟩ : ∃ L : Nat, lastOf n g = L := by
    unfold lastOf
    split
    · exact ⟨n - 1, by omega⟩
    · exact ⟨n, rfl⟩
  have hlad : Lad s e g n L := ⟨hl0, h6, hsl, hel2, bs, be, hL⟩
  have HFS := Lib.hid (fun w' => few_any a a1 a2 n c n c1 n c2 g w' (by omega) (by omega) (by omega))
  rw [show (decide ((n : Int) ≤ 8) && decide ((n : Int) ≤ 8) && decide ((n : Int) ≤ 8)) = true by simp; omega] at HFS
  have HCL := Lib.hid (fun (v : World) (hv : Below w.heap.size w v) => copyLadder_any s e t a a1 a2 n c n c1 n c2 g v (hs.below hv) (he.below hv) (ht.below hv) (by omega) (by omega) (by omega))
  have HIO := Lib.hid (fun (v : World) a3 c3 a4 c4 a5 c5 (h1 : IntsR v a3 n s) (h2 : IntsR v a4 n e) (h3 : IntsR v a5 n t) => initialOf_ok s e t a3 a4 a5 n c3 n c4 n c5 L g v h1 h2 h3 h0 hL)
  have HFO := Lib.hid (fun (v : World) a3 c3 a4 c4 a5 c5 (h1 : IntsR v a3 n s) (h2 : IntsR v a4 n e) (h3 : IntsR v a5 n t) => finalOf_ok s e t a3 a4 a5 n c3 n c4 n c5 g v h1 h2 h3 h0)
  have HCK := Lib.hid (fun (v : World) a3 c3 a4 c4 a5 c5 (h1 : IntsR v a3 n s) (h2 : IntsR v a4 n e) (h3 : IntsR v a5 n t) => checkLadder_any s e t a3 a4 a5 n c3 n c4 n c5 g v h1 h2 h3)
  have HLE := Lib.hid (fun (v : World) (hv : Below w.heap.size w v) => rladderErr_any s e t a a1 a2 n c n c1 n c2 g v (hs.below hv) (he.below hv) (ht.below hv))
  rw [h0] at HCK HLE
  have HRI := Lib.hid (fun (v : World) (hv : Below w.heap.size w v) => rinitial_any s e a a1 a2 n c c1 n c2 L g v (hs.below hv) (he.below hv) hlad)
  have HRF := Lib.hid (fun (v : World) (hv : Below w.heap.size w v) => rfinal_any t a a1 a2 n c n c1 n c2 g v (ht.below hv) hl0 h6 bt)
  have HFQ := Lib.hid hlad.fqs
  clear hs he ht h0 bs be bt hsl hel htl hel2 htl2 hlad hL
  go_enter Try.func5, Try.ntmps5
  go_wp2_with fail
  refine (awake_any _).mono ?_
  rintro e5 w5 ⟨rfl, hb5⟩
  have hz5 := hb5.size
  simp only [World.size_alloc] at hz5
  have q05 : w5.cell? ⟨w.heap.size, 0, none⟩ = some (.slice a n c) := by { rw [cellB hb5 _ _ (by first | (simp; done) | (simp; omega) | omega)]; all_goals (first | assumption | go_simp) }; have q15 : w5.cell? ⟨w.heap.size, 1, none⟩ = some (.slice a1 n c1) := by { rw [cellB hb5 _ _ (by first | (simp; done) | (simp; omega) | omega)]; all_goals (first | assumption | go_simp) }; have q25 : w5.cell? ⟨w.heap.size, 2, none⟩ = some (.slice a2 n c2) := by { rw [cellB hb5 _ _ (by first | (simp; done) | (simp; omega) | omega)]; all_goals (first | assumption | go_simp) }; have q35 : w5.cell? ⟨w.heap.size, 3, none⟩ = some (.bool g) := by { rw [cellB hb5 _ _ (by first | (simp; done) | (simp; omega) | omega)]; all_goals (first | assumption | go_simp) }; have l5 : w.heap.size < w5.heap.size := by { omega }
  have HB5 := Lib.hid (show Below w.heap.size w w5 by (repeat' (first | (with_reducible exact Below.refl _ _) | (with_reducible assumption) | (with_reducible refine Below.drewN ?_ _) | (with_reducible refine Below.alloc ?_ ?_ _) | (with_reducible refine Below.drew ?_) | (with_reducible refine Below.setCell ?_ ?_ _) | (with_reducible refine Below.step (by assumption) ?_ ?_) | (with_reducible exact And.left (by assumption)) | go_size)))
  clear hb5 hz5
  go_wp2_with fail
  refine (HFS.out _).mono ?_
  rintro e6 w6 ⟨rfl, hb6⟩
  have hz6 := hb6.size
  have q06 : w6.cell? ⟨w.heap.size, 0, none⟩ = some (.slice a n c) := by { rw [cellB hb6 _ _ (by first | (simp; done) | (simp; omega) | omega)]; all_goals (first | assumption | go_simp) }; have q16 : w6.cell? ⟨w.heap.size, 1, none⟩ = some (.slice a1 n c1) := by { rw [cellB hb6 _ _ (by first | (simp; done) | (simp; omega) | omega)]; all_goals (first | assumption | go_simp) }; have q26 : w6.cell? ⟨w.heap.size, 2, none⟩ = some (.slice a2 n c2) := by { rw [cellB hb6 _ _ (by first | (simp; done) | (simp; omega) | omega)]; all_goals (first | assumption | go_simp) }; have q36 : w6.cell? ⟨w.heap.size, 3, none⟩ = some (.bool g) := by { rw [cellB hb6 _ _ (by first | (simp; done) | (simp; omega) | omega)]; all_goals (first | assumption | go_simp) }; have l6 : w.heap.size < w6.heap.size := by { omega }
  have HB6 := Lib.hid (HB5.out.trans (hb6.mono HB5.out.size))
  clear hb6 hz6 q05 q15 q25 q35 l5
  go_wp2_with fail
  refine (HCL.out _ HB6.out).mono ?_
  rintro e7 w7 ⟨a3, c3, a4, c4, a5, c5, rfl, hb7, h1, h2, h3⟩
  have HX := Lib.hid (HIO.out _ _ c3 _ c4 _ c5 h1 h2 h3)
  clear h1 h2 h3
  have hz7 := hb7.size
  have q07 : w7.cell? ⟨w.heap.size, 0, none⟩ = some (.slice a n c) := by { rw [cellB hb7 _ _ (by first | (simp; done) | (simp; omega) | omega)]; all_goals (first | assumption | go_simp) }; have q17 : w7.cell? ⟨w.heap.size, 1, none⟩ = some (.slice a1 n c1) := by { rw [cellB hb7 _ _ (by first | (simp; done) | (simp; omega) | omega)]; all_goals (first | assumption | go_simp) }; have q27 : w7.cell? ⟨w.heap.size, 2, none⟩ = some (.slice a2 n c2) := by { rw [cellB hb7 _ _ (by first | (simp; done) | (simp; omega) | omega)]; all_goals (first | assumption | go_simp) }; have q37 : w7.cell? ⟨w.heap.size, 3, none⟩ = some (.bool g) := by { rw [cellB hb7 _ _ (by first | (simp; done) | (simp; omega) | omega)]; all_goals (first | assumption | go_simp) }; have l7 : w.heap.size < w7.heap.size := by { omega }
  have HB7 := Lib.hid (HB6.out.trans (hb7.mono HB6.out.size))
  clear hb7 hz7 q06 q16 q26 q36 l6
  go_wp2_with fail
  refine HX.out.mono ?_
  rintro e8 w8 ⟨hb8, hfr⟩
  obtain ⟨au, mu, cu, EU, rfl, hu⟩ := hfr.uor
  have HU := Lib.hid hu
  clear hfr hu
  have hz8 := hb8.size
  have q08 : w8.cell? ⟨w.heap.size, 0, none⟩ = some (.slice a n c) := by { rw [cellB hb8 _ _ (by first | (simp; done) | (simp; omega) | omega)]; all_goals (first | assumption | go_simp) }; have q18 : w8.cell? ⟨w.heap.size, 1, none⟩ = some (.slice a1 n c1) := by { rw [cellB hb8 _ _ (by first | (simp; done) | (simp; omega) | omega)]; all_goals (first | assumption | go_simp) }; have q28 : w8.cell? ⟨w.heap.size, 2, none⟩ = some (.slice a2 n c2) := by { rw [cellB hb8 _ _ (by first | (simp; done) | (simp; omega) | omega)]; all_goals (first | assumption | go_simp) }; have q38 : w8.cell? ⟨w.heap.size, 3, none⟩ = some (.bool g) := by { rw [cellB hb8 _ _ (by first | (simp; done) | (simp; omega) | omega)]; all_goals (first | assumption | go_simp) }; have l8 : w.heap.size < w8.heap.size := by { omega }
  have HB8 := Lib.hid (HB7.out.trans (hb8.mono HB7.out.size))
  clear hb8 hz8 q07 q17 q27 q37 l7
  clear HX HIO
  go_wp2_with fail
  refine (HCL.out _ HB8.out).mono ?_
  rintro e9 w9 ⟨a3, c3, a4, c4, a5, c5, rfl, hb9, h1, h2, h3⟩
  have HX := Lib.hid (HFO.out _ _ c3 _ c4 _ c5 h1 h2 h3)
  clear h1 h2 h3
  have HU := Lib.hid (HU.out.below hb9)
  have hz9 := hb9.size
  have q09 : w9.cell? ⟨w.heap.size, 0, none⟩ = some (.slice a n c) := by { rw [cellB hb9 _ _ (by first | (simp; done) | (simp; omega) | omega)]; all_goals (first | assumption | go_simp) }; have q19 : w9.cell? ⟨w.heap.size, 1, none⟩ = some (.slice a1 n c1) := by { rw [cellB hb9 _ _ (by first | (simp; done) | (simp; omega) | omega)]; all_goals (first | assumption | go_simp) }; have q29 : w9.cell? ⟨w.heap.size, 2, none⟩ = some (.slice a2 n c2) := by { rw [cellB hb9 _ _ (by first | (simp; done) | (simp; omega) | omega)]; all_goals (first | assumption | go_simp) }; have q39 : w9.cell? ⟨w.heap.size, 3, none⟩ = some (.bool g) := by { rw [cellB hb9 _ _ (by first | (simp; done) | (simp; omega) | omega)]; all_goals (first | assumption | go_simp) }; have l9 : w.heap.size < w9.heap.size := by { omega }
  have HB9 := Lib.hid (HB8.out.trans (hb9.mono HB8.out.size))
  clear hb9 hz9 q08 q18 q28 q38 l8
  go_wp2_with fail
  refine HX.out.mono ?_
  rintro e10 w10 ⟨hb10, av, cv, rfl, hv⟩
  have HV := Lib.hid hv
  have HU := Lib.hid (HU.out.below hb10)
  clear hv
  have hz10 := hb10.size
  have q010 : w10.cell? ⟨w.heap.size, 0, none⟩ = some (.slice a n c) := by { rw [cellB hb10 _ _ (by first | (simp; done) | (simp; omega) | omega)]; all_goals (first | assumption | go_simp) }; have q110 : w10.cell? ⟨w.heap.size, 1, none⟩ = some (.slice a1 n c1) := by { rw [cellB hb10 _ _ (by first | (simp; done) | (simp; omega) | omega)]; all_goals (first | assumption | go_simp) }; have q210 : w10.cell? ⟨w.heap.size, 2, none⟩ = some (.slice a2 n c2) := by { rw [cellB hb10 _ _ (by first | (simp; done) | (simp; omega) | omega)]; all_goals (first | assumption | go_simp) }; have q310 : w10.cell? ⟨w.heap.size, 3, none⟩ = some (.bool g) := by { rw [cellB hb10 _ _ (by first | (simp; done) | (simp; omega) | omega)]; all_goals (first | assumption | go_simp) }; have l10 : w.heap.size < w10.heap.size := by { omega }
  have HB10 := Lib.hid (HB9.out.trans (hb10.mono HB9.out.size))
  clear hb10 hz10 q09 q19 q29 q39 l9
  clear HX HFO
  go_wp2_with fail
  refine (HLE.out _ HB10.out).mono ?_
  rintro e11 w11 ⟨rfl, hb11⟩
  have HV := Lib.hid (HV.out.below hb11)
  have HU := Lib.hid (HU.out.below hb11)
  have hz11 := hb11.size
  have q011 : w11.cell? ⟨w.heap.size, 0, none⟩ = some (.slice a n c) := by { rw [cellB hb11 _ _ (by first | (simp; done) | (simp; omega) | omega)]; all_goals (first | assumption | go_simp) }; have q111 : w11.cell? ⟨w.heap.size, 1, none⟩ = some (.slice a1 n c1) := by { rw [cellB hb11 _ _ (by first | (simp; done) | (simp; omega) | omega)]; all_goals (first | assumption | go_simp) }; have q211 : w11.cell? ⟨w.heap.size, 2, none⟩ = some (.slice a2 n c2) := by { rw [cellB hb11 _ _ (by first | (simp; done) | (simp; omega) | omega)]; all_goals (first | assumption | go_simp) }; have q311 : w11.cell? ⟨w.heap.size, 3, none⟩ = some (.bool g) := by { rw [cellB hb11 _ _ (by first | (simp; done) | (simp; omega) | omega)]; all_goals (first | assumption | go_simp) }; have l11 : w.heap.size < w11.heap.size := by { omega }
  have HB11 := Lib.hid (HB10.out.trans (hb11.mono HB10.out.size))
  clear hb11 hz11 q010 q110 q210 q310 l10
  go_wp2_with fail
  refine (HCL.out _ HB11.out).mono ?_
  rintro e12 w12 ⟨a3, c3, a4, c4, a5, c5, rfl, hb12, h1, h2, h3⟩
  have HX := Lib.hid (HCK.out _ _ c3 _ c4 _ c5 h1 h2 h3)
  clear h1 h2 h3
  have HV := Lib.hid (HV.out.below hb12)
  have HU := Lib.hid (HU.out.below hb12)
  have hz12 := hb12.size
  have q012 : w12.cell? ⟨w.heap.size, 0, none⟩ = some (.slice a n c) := by { rw [cellB hb12 _ _ (by first | (simp; done) | (simp; omega) | omega)]; all_goals (first | assumption | go_simp) }; have q112 : w12.cell? ⟨w.heap.size, 1, none⟩ = some (.slice a1 n c1) := by { rw [cellB hb12 _ _ (by first | (simp; done) | (simp; omega) | omega)]; all_goals (first | assumption | go_simp) }; have q212 : w12.cell? ⟨w.heap.size, 2, none⟩ = some (.slice a2 n c2) := by { rw [cellB hb12 _ _ (by first | (simp; done) | (simp; omega) | omega)]; all_goals (first | assumption | go_simp) }; have q312 : w12.cell? ⟨w.heap.size, 3, none⟩ = some (.bool g) := by { rw [cellB hb12 _ _ (by first | (simp; done) | (simp; omega) | omega)]; all_goals (first | assumption | go_simp) }; have l12 : w.heap.size < w12.heap.size := by { omega }
  have HB12 := Lib.hid (HB11.out.trans (hb12.mono HB11.out.size))
  clear hb12 hz12 q011 q111 q211 q311 l11
  go_wp2_with fail
  refine HX.out.mono ?_
  rintro e13 w13 ⟨rfl, hb13⟩
  have HV := Lib.hid (HV.out.below hb13)
  have HU := Lib.hid (HU.out.below hb13)
  have hz13 := hb13.size
  have q013 : w13.cell? ⟨w.heap.size, 0, none⟩ = some (.slice a n c) := by { rw [cellB hb13 _ _ (by first | (simp; done) | (simp; omega) | omega)]; all_goals (first | assumption | go_simp) }; have q113 : w13.cell? ⟨w.heap.size, 1, none⟩ = some (.slice a1 n c1) := by { rw [cellB hb13 _ _ (by first | (simp; done) | (simp; omega) | omega)]; all_goals (first | assumption | go_simp) }; have q213 : w13.cell? ⟨w.heap.size, 2, none⟩ = some (.slice a2 n c2) := by { rw [cellB hb13 _ _ (by first | (simp; done) | (simp; omega) | omega)]; all_goals (first | assumption | go_simp) }; have q313 : w13.cell? ⟨w.heap.size, 3, none⟩ = some (.bool g) := by { rw [cellB hb13 _ _ (by first | (simp; done) | (simp; omega) | omega)]; all_goals (first | assumption | go_simp) }; have l13 : w.heap.size < w13.heap.size := by { omega }
  have HB13 := Lib.hid (HB12.out.trans (hb13.mono HB12.out.size))
  clear hb13 hz13 q012 q112 q212 q312 l12
  clear HX HCK HCL HLE
  go_wp2_with fail
  refine (HRI.out _ HB13.out).mono ?_
  rintro e14 w14 ⟨ad, cd, rfl, hb14, ys, h1, h2⟩
  have HX := Lib.hid (rfracs_any _ ys ad (n + 1) cd w14 h1 h2 (by omega))
  rw [HFQ.out] at HX
  have HV := Lib.hid (HV.out.below hb14)
  have HU := Lib.hid (HU.out.below hb14)
  clear h1 h2
  have hz14 := hb14.size
  have q014 : w14.cell? ⟨w.heap.size, 0, none⟩ = some (.slice a n c) := by { rw [cellB hb14 _ _ (by first | (simp; done) | (simp; omega) | omega)]; all_goals (first | assumption | go_simp) }; have q114 : w14.cell? ⟨w.heap.size, 1, none⟩ = some (.slice a1 n c1) := by { rw [cellB hb14 _ _ (by first | (simp; done) | (simp; omega) | omega)]; all_goals (first | assumption | go_simp) }; have q214 : w14.cell? ⟨w.heap.size, 2, none⟩ = some (.slice a2 n c2) := by { rw [cellB hb14 _ _ (by first | (simp; done) | (simp; omega) | omega)]; all_goals (first | assumption | go_simp) }; have q314 : w14.cell? ⟨w.heap.size, 3, none⟩ = some (.bool g) := by { rw [cellB hb14 _ _ (by first | (simp; done) | (simp; omega) | omega)]; all_goals (first | assumption | go_simp) }; have l14 : w.heap.size < w14.heap.size := by { omega }
  have HB14 := Lib.hid (HB13.out.trans (hb14.mono HB13.out.size))
  clear hb14 hz14 q013 q113 q213 q313 l13
  clear HRI
  generalize initOf s e n L = U at *
  go_wp2_with fail
  refine HX.out.mono ?_
  rintro e15 w15 ⟨hb15, hp⟩
  have HP := Lib.hid hp
  have HV := Lib.hid (HV.out.below hb15)
  have HU := Lib.hid (HU.out.below hb15)
  clear hp
  have hz15 := hb15.size
  have q015 : w15.cell? ⟨w.heap.size, 0, none⟩ = some (.slice a n c) := by { rw [cellB hb15 _ _ (by first | (simp; done) | (simp; omega) | omega)]; all_goals (first | assumption | go_simp) }; have q115 : w15.cell? ⟨w.heap.size, 1, none⟩ = some (.slice a1 n c1) := by { rw [cellB hb15 _ _ (by first | (simp; done) | (simp; omega) | omega)]; all_goals (first | assumption | go_simp) }; have q215 : w15.cell? ⟨w.heap.size, 2, none⟩ = some (.slice a2 n c2) := by { rw [cellB hb15 _ _ (by first | (simp; done) | (simp; omega) | omega)]; all_goals (first | assumption | go_simp) }; have q315 : w15.cell? ⟨w.heap.size, 3, none⟩ = some (.bool g) := by { rw [cellB hb15 _ _ (by first | (simp; done) | (simp; omega) | omega)]; all_goals (first | assumption | go_simp) }; have l15 : w.heap.size < w15.heap.size := by { omega }
  have HB15 := Lib.hid (HB14.out.trans (hb15.mono HB14.out.size))
  clear hb15 hz15 q014 q114 q214 q314 l14
  clear HX
  have HFE := Lib.hid (fun (v : World) (hv : Below w15.heap.size w15 v) a' c' (h' : PairsR v a' (n + 1) (finO t n g)) => fracs_any _ _ av a' (n + 1) cv (n + 1) c' v (HV.out.below hv) h')
  rw [show decide (finO t n g = finO t n g) = true by simp] at HFE
  rcases HP.out with ⟨hbad, rfl⟩ | ⟨hgood, aw, cw, rfl, hw⟩
  · rcases HU.out with ⟨h1, h2, h3, h4, h5⟩ | ⟨h1, _⟩
    · subst h2 h3 h4 h5
      clear h1 hbad
      go_wp2_with fail
      refine (fracsOr_no _ _ _ _).mono ?_
      rintro e16 w16 ⟨rfl, hb16⟩
      have HB16' := Lib.hid hb16
      have hz16 := hb16.size
      have q016 : w16.cell? ⟨w.heap.size, 0, none⟩ = some (.slice a n c) := by { rw [cellB hb16 _ _ (by first | (simp; done) | (simp; omega) | omega)]; all_goals (first | assumption | go_simp) }; have q116 : w16.cell? ⟨w.heap.size, 1, none⟩ = some (.slice a1 n c1) := by { rw [cellB hb16 _ _ (by first | (simp; done) | (simp; omega) | omega)]; all_goals (first | assumption | go_simp) }; have q216 : w16.cell? ⟨w.heap.size, 2, none⟩ = some (.slice a2 n c2) := by { rw [cellB hb16 _ _ (by first | (simp; done) | (simp; omega) | omega)]; all_goals (first | assumption | go_simp) }; have q316 : w16.cell? ⟨w.heap.size, 3, none⟩ = some (.bool g) := by { rw [cellB hb16 _ _ (by first | (simp; done) | (simp; omega) | omega)]; all_goals (first | assumption | go_simp) }; have l16 : w.heap.size < w16.heap.size := by { omega }
      have HB16 := Lib.hid (HB15.out.trans (hb16.mono HB15.out.size))
      clear hb16 hz16 q015 q115 q215 q315 l15
      go_wp2_with fail
      refine (HRF.out _ HB16.out).mono ?_
      rintro e17 w17 ⟨a6, c6, rfl, hb17, h6'⟩
      have HX := Lib.hid (HFE.out w17 (HB16'.out.trans (hb17.mono HB16'.out.size)) a6 c6 h6')
      clear h6'
      have hz17 := hb17.size
      have q017 : w17.cell? ⟨w.heap.size, 0, none⟩ = some (.slice a n c) := by { rw [cellB hb17 _ _ (by first | (simp; done) | (simp; omega) | omega)]; all_goals (first | assumption | go_simp) }; have q117 : w17.cell? ⟨w.heap.size, 1, none⟩ = some (.slice a1 n c1) := by { rw [cellB hb17 _ _ (by first | (simp; done) | (simp; omega) | omega)]; all_goals (first | assumption | go_simp) }; have q217 : w17.cell? ⟨w.heap.size, 2, none⟩ = some (.slice a2 n c2) := by { rw [cellB hb17 _ _ (by first | (simp; done) | (simp; omega) | omega)]; all_goals (first | assumption | go_simp) }; have q317 : w17.cell? ⟨w.heap.size, 3, none⟩ = some (.bool g) := by { rw [cellB hb17 _ _ (by first | (simp; done) | (simp; omega) | omega)]; all_goals (first | assumption | go_simp) }; have l17 : w.heap.size < w17.heap.size := by { omega }
      have HB17 := Lib.hid (HB16.out.trans (hb17.mono HB16.out.size))
      clear hb17 hz17 q016 q116 q216 q316 l16
      go_wp2_with fail
      refine HX.out.mono ?_
      rintro e18 w18 ⟨rfl, m, rfl⟩
      go_wp2
      go_ret
      exact ⟨rfl, by have := HB17.out; (repeat' (first | (with_reducible exact Below.refl _ _) | (with_reducible assumption) | (with_reducible refine Below.drewN ?_ _) | (with_reducible refine Below.alloc ?_ ?_ _) | (with_reducible refine Below.drew ?_) | (with_reducible refine Below.setCell ?_ ?_ _) | (with_reducible refine Below.step (by assumption) ?_ ?_) | (with_reducible exact And.left (by assumption)) | go_size))⟩
    · rw [hbad] at h1; exact absurd h1 (by simp)
  · rcases HU.out with ⟨h1, _⟩ | ⟨h1, h2, h3, h4⟩
    · rw [hgood] at h1; exact absurd h1 (by simp)
    · subst h2 h3
      have HX := Lib.hid (fracsOr_yes _ _ _ _ cu _ cw _ h4 hw)
      clear h1 h4 hw hgood
      go_wp2_with fail
      refine HX.out.mono ?_
      rintro e16 w16 ⟨rfl, hb16⟩
      have HB16' := Lib.hid hb16
      have hz16 := hb16.size
      have q016 : w16.cell? ⟨w.heap.size, 0, none⟩ = some (.slice a n c) := by { rw [cellB hb16 _ _ (by first | (simp; done) | (simp; omega) | omega)]; all_goals (first | assumption | go_simp) }; have q116 : w16.cell? ⟨w.heap.size, 1, none⟩ = some (.slice a1 n c1) := by { rw [cellB hb16 _ _ (by first | (simp; done) | (simp; omega) | omega)]; all_goals (first | assumption | go_simp) }; have q216 : w16.cell? ⟨w.heap.size, 2, none⟩ = some (.slice a2 n c2) := by { rw [cellB hb16 _ _ (by first | (simp; done) | (simp; omega) | omega)]; all_goals (first | assumption | go_simp) }; have q316 : w16.cell? ⟨w.heap.size, 3, none⟩ = some (.bool g) := by { rw [cellB hb16 _ _ (by first | (simp; done) | (simp; omega) | omega)]; all_goals (first | assumption | go_simp) }; have l16 : w.heap.size < w16.heap.size := by { omega }
      have HB16 := Lib.hid (HB15.out.trans (hb16.mono HB15.out.size))
      clear hb16 hz16 q015 q115 q215 q315 l15
      go_wp2_with fail
      refine (HRF.out _ HB16.out).mono ?_
      rintro e17 w17 ⟨a6, c6, rfl, hb17, h6'⟩
      have HX := Lib.hid (HFE.out w17 (HB16'.out.trans (hb17.mono HB16'.out.size)) a6 c6 h6')
      clear h6'
      have hz17 := hb17.size
      have q017 : w17.cell? ⟨w.heap.size, 0, none⟩ = some (.slice a n c) := by { rw [cellB hb17 _ _ (by first | (simp; done) | (simp; omega) | omega)]; all_goals (first | assumption | go_simp) }; have q117 : w17.cell? ⟨w.heap.size, 1, none⟩ = some (.slice a1 n c1) := by { rw [cellB hb17 _ _ (by first | (simp; done) | (simp; omega) | omega)]; all_goals (first | assumption | go_simp) }; have q217 : w17.cell? ⟨w.heap.size, 2, none⟩ = some (.slice a2 n c2) := by { rw [cellB hb17 _ _ (by first | (simp; done) | (simp; omega) | omega)]; all_goals (first | assumption | go_simp) }; have q317 : w17.cell? ⟨w.heap.size, 3, none⟩ = some (.bool g) := by { rw [cellB hb17 _ _ (by first | (simp; done) | (simp; omega) | omega)]; all_goals (first | assumption | go_simp) }; have l17 : w.heap.size < w17.heap.size := by { omega }
      have HB17 := Lib.hid (HB16.out.trans (hb17.mono HB16.out.size))
      clear hb17 hz17 q016 q116 q216 q316 l16
      go_wp2_with fail
      refine HX.out.mono ?_
      rintro e18 w18 ⟨rfl, m, rfl⟩
      go_wp2
      go_ret
      exact ⟨rfl, by have := HB17.out; (repeat' (first | (with_reducible exact Below.refl _ _) | (with_reducible assumption) | (with_reducible refine Below.drewN ?_ _) | (with_reducible refine Below.alloc ?_ ?_ _) | (with_reducible refine Below.drew ?_) | (with_reducible refine Below.setCell ?_ ?_ _) | (with_reducible refine Below.step (by assumption) ?_ ?_) | (with_reducible exact And.left (by assumption)) | go_size))⟩
theorem sini_walk (s e t : List Int) (a a1 a2 : Option Addr) (n c n1 c1 n2 c2 : Nat) (g : Bool) (w : World) (hs : IntsR w a n s) (he : IntsR w a1 n1 e) (ht : IntsR w a2 n2 t) :
    Calls Try.prog 5 #[.agg #[.slice a n c, .slice a1 n1 c1, .slice a2 n2 c2, .bool g]] w fun e' w' => e' = .returned (.bool true) ∧ Below w.heap.size w w' := by
  by_cases h : ladErr s e t = 0
  · exact sini_main s e t a a1 a2 n c n1 c1 n2 c2 g w hs he ht h
  · cases h0 : (decide ((n : Int) ≤ 8) && decide ((n1 : Int) ≤ 8) && decide ((n2 : Int) ≤ 8))
    · exact sini_few s e t a a1 a2 n c n1 c1 n2 c2 g w hs he ht h0
    · exact sini_bad s e t a a1 a2 n c n1 c1 n2 c2 g w hs he ht h0 h
end Go.Proofs.Ytphgacledebolaa
