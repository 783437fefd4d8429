import Derived.Test.YtphgacledebolaaAwake
import Derived.Test.YtphgacledebolaaMNs
import Derived.Test.YtphgacledebolaaMSp
import Derived.Test.YtphgacledebolaaRngLib
/- The statement SurgeSpans: the walk. -/
namespace Go.Proofs.Ytphgacledebolaa
open Go.RowKit
set_option linter.unusedVariables false

/-- A span that is as wanted, or ErrLarge. -/
def SpOk (A0 A1 A2 A3 E : Int) (v : Value) : Prop := (E = 8 ∧ A0 = 0 ∧ A1 = 0 ∧ A2 = 0 ∧ A3 = 0 ∧ v = .tuple #[.agg #[.int .i64 0, .int .i64 0, .int .i64 0, .int .i64 0], .bool false]) ∨ (E = 0 ∧ v = .tuple #[.agg #[.int .i64 A0, .int .i64 A1, .int .i64 A2, .int .i64 A3], .bool true])
theorem spanOr_no (w : World) : Calls Try.prog 18 #[.agg #[.int .i64 0, .int .i64 0, .int .i64 0, .int .i64 0], .int .i64 8, .agg #[.int .i64 0, .int .i64 0, .int .i64 0, .int .i64 0], .bool false] w fun e' w' => e' = .returned (.bool true) ∧ Below w.heap.size w w' := by
  go_enter Try.func18, Try.ntmps18
  go_wp2
  go_ret
  exact ⟨rfl, by (repeat' (first | (with_reducible exact Below.refl _ _) | (with_reducible assumption) | (with_reducible refine Below.drewN ?_ _) | (with_reducible refine Below.alloc ?_ ?_ _) | (with_reducible refine Below.drew ?_) | (with_reducible refine Below.setCell ?_ ?_ _) | (with_reducible refine Below.step (by assumption) ?_ ?_) | (with_reducible exact And.left (by assumption)) | go_size))⟩
theorem spanOr_yes (A0 A1 A2 A3 : Int) (w : World) : Calls Try.prog 18 #[.agg #[.int .i64 A0, .int .i64 A1, .int .i64 A2, .int .i64 A3], .int .i64 0, .agg #[.int .i64 A0, .int .i64 A1, .int .i64 A2, .int .i64 A3], .bool true] w fun e' w' => e' = .returned (.bool true) ∧ Below w.heap.size w w' := by
  go_enter Try.func18, Try.ntmps18
  go_wp2
  go_ret
  exact ⟨by simp, by (repeat' (first | (with_reducible exact Below.refl _ _) | (with_reducible assumption) | (with_reducible refine Below.drewN ?_ _) | (with_reducible refine Below.alloc ?_ ?_ _) | (with_reducible refine Below.drew ?_) | (with_reducible refine Below.setCell ?_ ?_ _) | (with_reducible refine Below.step (by assumption) ?_ ?_) | (with_reducible exact And.left (by assumption)) | go_size))⟩
/-- What the program says of a node, and of a gap. -/
theorem node_sp {s e : List (Int × Int)} {n L : Nat} {g : Bool} (h : rngErr s e = 0) (hn : s.length = n) (hL : lastOf n g = L) (k : Nat) (hk : k ≤ n) : ∃ A0 A1 A2 A3 E,
    (.tuple (if smallF (nodeFr s e n L k false) && smallF (nodeFr s e n L k true) then #[.agg #[.int .i64 (nodeFr s e n L k false).1, .int .i64 (nodeFr s e n L k false).2, .int .i64 (nodeFr s e n L k true).1, .int .i64 (nodeFr s e n L k true).2], .int .i64 0] else #[.agg #[.int .i64 0, .int .i64 0, .int .i64 0, .int .i64 0], .int .i64 8]) : Value) = .tuple #[.agg #[.int .i64 A0, .int .i64 A1, .int .i64 A2, .int .i64 A3], .int .i64 E]
    ∧ SpOk A0 A1 A2 A3 E (spanV (vq (extAt s (np1 k) false n) (extAt e np2 false n) L k) (vq (extAt s (np1 k) true n) (extAt e np2 true n) L k)) := by
  have l1 := rng_ext (np1 k) np2 false h hn hL
  have l2 := rng_ext (np1 k) np2 true h hn hL
  have e1 : fq (vq (extAt s (np1 k) false n) (extAt e np2 false n) L k) = nodeFr s e n L k false := by
    rw [l1.fqv]; unfold nodeFr nodeNum nodeDen; rw [nums_nu _ _ _ _ _ hk]
  have e2 : fq (vq (extAt s (np1 k) true n) (extAt e np2 true n) L k) = nodeFr s e n L k true := by
    rw [l2.fqv]; unfold nodeFr nodeNum nodeDen; rw [nums_nu _ _ _ _ _ hk]
  rw [← e1, ← e2, small_fq, small_fq]
  unfold spanV
  cases hh : (smallQ (vq (extAt s (np1 k) false n) (extAt e np2 false n) L k) && smallQ (vq (extAt s (np1 k) true n) (extAt e np2 true n) L k))
  · exact ⟨0, 0, 0, 0, 8, rfl, .inl ⟨rfl, rfl, rfl, rfl, rfl, rfl⟩⟩
  · exact ⟨_, _, _, _, 0, rfl, .inr ⟨rfl, rfl⟩⟩
theorem gap_sp {s e : List (Int × Int)} {n L : Nat} {g : Bool} (h : rngErr s e = 0) (hn : s.length = n) (hL : lastOf n g = L) (k : Nat) (hk : k < n) : ∃ A0 A1 A2 A3 E,
    (.tuple (if smallF (gapFr s e n L k false) && smallF (gapFr s e n L k true) then #[.agg #[.int .i64 (gapFr s e n L k false).1, .int .i64 (gapFr s e n L k false).2, .int .i64 (gapFr s e n L k true).1, .int .i64 (gapFr s e n L k true).2], .int .i64 0] else #[.agg #[.int .i64 0, .int .i64 0, .int .i64 0, .int .i64 0], .int .i64 8]) : Value) = .tuple #[.agg #[.int .i64 A0, .int .i64 A1, .int .i64 A2, .int .i64 A3], .int .i64 E]
    ∧ SpOk A0 A1 A2 A3 E (spanV (vq (extAt s (gp1 k) false n) (extAt e (gp2 k) false n) L k - vq (extAt s (gp1 k) false n) (extAt e (gp2 k) false n) L (k + 1)) (vq (extAt s (gp1 k) true n) (extAt e (gp2 k) true n) L k - vq (extAt s (gp1 k) true n) (extAt e (gp2 k) true n) L (k + 1))) := by
  have l1 := rng_ext (gp1 k) (gp2 k) false h hn hL
  have l2 := rng_ext (gp1 k) (gp2 k) true h hn hL
  have e1 : fq (vq (extAt s (gp1 k) false n) (extAt e (gp2 k) false n) L k - vq (extAt s (gp1 k) false n) (extAt e (gp2 k) false n) L (k + 1)) = gapFr s e n L k false := by
    rw [l1.fqd]; unfold gapFr gapNum gapDen; rw [nums_nu _ _ _ _ _ (by omega), nums_nu _ _ _ _ _ (by omega)]
  have e2 : fq (vq (extAt s (gp1 k) true n) (extAt e (gp2 k) true n) L k - vq (extAt s (gp1 k) true n) (extAt e (gp2 k) true n) L (k + 1)) = gapFr s e n L k true := by
    rw [l2.fqd]; unfold gapFr gapNum gapDen; rw [nums_nu _ _ _ _ _ (by omega), nums_nu _ _ _ _ _ (by omega)]
  rw [← e1, ← e2, small_fq, small_fq]
  unfold spanV
  cases hh : (smallQ (vq (extAt s (gp1 k) false n) (extAt e (gp2 k) false n) L k - vq (extAt s (gp1 k) false n) (extAt e (gp2 k) false n) L (k + 1)) && smallQ (vq (extAt s (gp1 k) true n) (extAt e (gp2 k) true n) L k - vq (extAt s (gp1 k) true n) (extAt e (gp2 k) true n) L (k + 1)))
  · exact ⟨0, 0, 0, 0, 8, rfl, .inl ⟨rfl, rfl, rfl, rfl, rfl, rfl⟩⟩
  · exact ⟨_, _, _, _, 0, rfl, .inr ⟨rfl, rfl⟩⟩
theorem spans_few (s e : List (Int × Int)) (node gap : Int) (a a1 : Option Addr) (n c n1 c1 : Nat) (g : Bool) (w : World) (hs : PairsR w a n s) (he : PairsR w a1 n1 e) (h0 : (decide ((n : Int) ≤ 8) && decide ((n1 : Int) ≤ 8)) = false) :
    Calls Try.prog 3 #[.agg #[.slice a n c, .slice a1 n1 c1, .bool g], .int .i64 node, .int .i64 gap] w fun e' w' => e' = .returned (.bool true) ∧ Below w.heap.size w w' := by
  have HFS := Lib.hid (fun w' => fewRanges_any a a1 n c n1 c1 g w' hs.small he.small)
  rw [h0] at HFS
  clear hs he h0
  go_enter Try.func3, Try.ntmps3
  go_wp2_with fail
  refine (awake_any _).mono ?_
  rintro e5 w5 ⟨rfl, hb5⟩
  have hz5 := hb5.size
  simp only [World.size_alloc] at hz5
  have q05 : w5.cell? ⟨w.heap.size, 0, none⟩ = some (.slice a n c) := by { rw [cellB hb5 _ _ (by first | (simp; done) | (simp; omega) | omega)]; all_goals (first | assumption | go_simp) }; have q15 : w5.cell? ⟨w.heap.size, 1, none⟩ = some (.slice a1 n1 c1) := by { rw [cellB hb5 _ _ (by first | (simp; done) | (simp; omega) | omega)]; all_goals (first | assumption | go_simp) }; have q25 : w5.cell? ⟨w.heap.size, 2, none⟩ = some (.bool g) := by { rw [cellB hb5 _ _ (by first | (simp; done) | (simp; omega) | omega)]; all_goals (first | assumption | go_simp) }; have l5 : w.heap.size < w5.heap.size := by { omega }
  have HB5 := Lib.hid (show Below w.heap.size w w5 by (repeat' (first | (with_reducible exact Below.refl _ _) | (with_reducible assumption) | (with_reducible refine Below.drewN ?_ _) | (with_reducible refine Below.alloc ?_ ?_ _) | (with_reducible refine Below.drew ?_) | (with_reducible refine Below.setCell ?_ ?_ _) | (with_reducible refine Below.step (by assumption) ?_ ?_) | (with_reducible exact And.left (by assumption)) | go_size)))
  clear hb5 hz5
  go_wp2_with fail
  refine (HFS.out _).mono ?_
  rintro e6 w6 ⟨rfl, hb6⟩
  have hz6 := hb6.size
  have q06 : w6.cell? ⟨w.heap.size, 0, none⟩ = some (.slice a n c) := by { rw [cellB hb6 _ _ (by first | (simp; done) | (simp; omega) | omega)]; all_goals (first | assumption | go_simp) }; have q16 : w6.cell? ⟨w.heap.size, 1, none⟩ = some (.slice a1 n1 c1) := by { rw [cellB hb6 _ _ (by first | (simp; done) | (simp; omega) | omega)]; all_goals (first | assumption | go_simp) }; have q26 : w6.cell? ⟨w.heap.size, 2, none⟩ = some (.bool g) := by { rw [cellB hb6 _ _ (by first | (simp; done) | (simp; omega) | omega)]; all_goals (first | assumption | go_simp) }; have l6 : w.heap.size < w6.heap.size := by { omega }
  have HB6 := Lib.hid (HB5.out.trans (hb6.mono HB5.out.size))
  clear hb6 hz6 q05 q15 q25 l5
  go_wp2
  go_ret
  exact ⟨rfl, HB6.out⟩
set_option maxHeartbeats 1000000 in
set_option maxRecDepth 100000 in
theorem spans_badc (s e : List (Int × Int)) (node gap : Int) (a a1 : Option Addr) (n c n1 c1 : Nat) (g : Bool) (w : World) (hs : PairsR w a n s) (he : PairsR w a1 n1 e) (h0 : (decide ((n : Int) ≤ 8) && decide ((n1 : Int) ≤ 8)) = true)
    (A0 A1 A2 A3 B0 B1 B2 B3 E : Int) (hE0 : E ≠ 0) (hEE : rngErr s e = E) (hZ : (A0 = 0 ∧ A1 = 0 ∧ A2 = 0 ∧ A3 = 0) ∧ B0 = 0 ∧ B1 = 0 ∧ B2 = 0 ∧ B3 = 0)
    (hno : ∀ (v : World) a3 c3 a4 c4, PairsR v a3 n s → PairsR v a4 n1 e → Calls Try.prog 11 #[.agg #[.slice a3 n c3, .slice a4 n1 c4, .bool g], .int .i64 node] v fun e' w' => e' = .returned (.tuple #[.agg #[.int .i64 A0, .int .i64 A1, .int .i64 A2, .int .i64 A3], .int .i64 E]) ∧ Below v.heap.size v w')
    (hgo : ∀ (v : World) a3 c3 a4 c4, PairsR v a3 n s → PairsR v a4 n1 e → Calls Try.prog 13 #[.agg #[.slice a3 n c3, .slice a4 n1 c4, .bool g], .int .i64 gap] v fun e' w' => e' = .returned (.tuple #[.agg #[.int .i64 B0, .int .i64 B1, .int .i64 B2, .int .i64 B3], .int .i64 E]) ∧ Below v.heap.size v w') :
    Calls Try.prog 3 #[.agg #[.slice a n c, .slice a1 n1 c1, .bool g], .int .i64 node, .int .i64 gap] w fun e' w' => e' = .returned (.bool true) ∧ Below w.heap.size w w' := by
  have hn : n ≤ 8 ∧ n1 ≤ 8 := by
    rw [Bool.and_eq_true, decide_eq_true_eq, decide_eq_true_eq] at h0; omega
  have HFS := Lib.hid (fun w' => fewRanges_any a a1 n c n1 c1 g w' hs.small he.small)
  rw [h0] at HFS
  have HCL := Lib.hid (fun (v : World) (hv : Below w.heap.size w v) => copySpans_any s e a a1 n c n1 c1 g v (hs.below hv) (he.below hv) (by omega) (by omega))
  have HNO := Lib.hid hno
  have HGO := Lib.hid hgo
  have HCK := Lib.hid (fun (v : World) a3 c3 a4 c4 (h1 : PairsR v a3 n s) (h2 : PairsR v a4 n1 e) => checkRanges_any s e a3 a4 n c3 n1 c4 g v h1 h2)
  have HLE := Lib.hid (fun (v : World) (hv : Below w.heap.size w v) => rrangesErr_any s e a a1 n c n1 c1 g v (hs.below hv) (he.below hv))
  rw [hEE] at HCK HLE
  have HZ := Lib.hid hZ
  have hE1 : (E != 0) = true := by simpa using hE0
  have hE2 : (E != E) = false := by simp
  have hE3 : (E == E) = true := by simp
  clear hs he h0 hn hEE hE0 hZ hno hgo
  go_enter Try.func3, Try.ntmps3
  go_wp2_with fail
  refine (awake_any _).mono ?_
  rintro e5 w5 ⟨rfl, hb5⟩
  have hz5 := hb5.size
  simp only [World.size_alloc] at hz5
  have q05 : w5.cell? ⟨w.heap.size, 0, none⟩ = some (.slice a n c) := by { rw [cellB hb5 _ _ (by first | (simp; done) | (simp; omega) | omega)]; all_goals (first | assumption | go_simp) }; have q15 : w5.cell? ⟨w.heap.size, 1, none⟩ = some (.slice a1 n1 c1) := by { rw [cellB hb5 _ _ (by first | (simp; done) | (simp; omega) | omega)]; all_goals (first | assumption | go_simp) }; have q25 : w5.cell? ⟨w.heap.size, 2, none⟩ = some (.bool g) := by { rw [cellB hb5 _ _ (by first | (simp; done) | (simp; omega) | omega)]; all_goals (first | assumption | go_simp) }; have l5 : w.heap.size < w5.heap.size := by { omega }
  have HB5 := Lib.hid (show Below w.heap.size w w5 by (repeat' (first | (with_reducible exact Below.refl _ _) | (with_reducible assumption) | (with_reducible refine Below.drewN ?_ _) | (with_reducible refine Below.alloc ?_ ?_ _) | (with_reducible refine Below.drew ?_) | (with_reducible refine Below.setCell ?_ ?_ _) | (with_reducible refine Below.step (by assumption) ?_ ?_) | (with_reducible exact And.left (by assumption)) | go_size)))
  clear hb5 hz5
  go_wp2_with fail
  refine (HFS.out _).mono ?_
  rintro e6 w6 ⟨rfl, hb6⟩
  have hz6 := hb6.size
  have q06 : w6.cell? ⟨w.heap.size, 0, none⟩ = some (.slice a n c) := by { rw [cellB hb6 _ _ (by first | (simp; done) | (simp; omega) | omega)]; all_goals (first | assumption | go_simp) }; have q16 : w6.cell? ⟨w.heap.size, 1, none⟩ = some (.slice a1 n1 c1) := by { rw [cellB hb6 _ _ (by first | (simp; done) | (simp; omega) | omega)]; all_goals (first | assumption | go_simp) }; have q26 : w6.cell? ⟨w.heap.size, 2, none⟩ = some (.bool g) := by { rw [cellB hb6 _ _ (by first | (simp; done) | (simp; omega) | omega)]; all_goals (first | assumption | go_simp) }; have l6 : w.heap.size < w6.heap.size := by { omega }
  have HB6 := Lib.hid (HB5.out.trans (hb6.mono HB5.out.size))
  clear hb6 hz6 q05 q15 q25 l5
  go_wp2_with fail
  refine (HCL.out _ HB6.out).mono ?_
  rintro e7 w7 ⟨a3, c3, a4, c4, rfl, hb7, h1, h2⟩
  have HX := Lib.hid (HNO.out _ _ c3 _ c4 h1 h2)
  clear h1 h2
  have hz7 := hb7.size
  have q07 : w7.cell? ⟨w.heap.size, 0, none⟩ = some (.slice a n c) := by { rw [cellB hb7 _ _ (by first | (simp; done) | (simp; omega) | omega)]; all_goals (first | assumption | go_simp) }; have q17 : w7.cell? ⟨w.heap.size, 1, none⟩ = some (.slice a1 n1 c1) := by { rw [cellB hb7 _ _ (by first | (simp; done) | (simp; omega) | omega)]; all_goals (first | assumption | go_simp) }; have q27 : w7.cell? ⟨w.heap.size, 2, none⟩ = some (.bool g) := by { rw [cellB hb7 _ _ (by first | (simp; done) | (simp; omega) | omega)]; all_goals (first | assumption | go_simp) }; have l7 : w.heap.size < w7.heap.size := by { omega }
  have HB7 := Lib.hid (HB6.out.trans (hb7.mono HB6.out.size))
  clear hb7 hz7 q06 q16 q26 l6
  go_wp2_with fail
  refine HX.out.mono ?_
  rintro e8 w8 ⟨rfl, hb8⟩
  have hz8 := hb8.size
  have q08 : w8.cell? ⟨w.heap.size, 0, none⟩ = some (.slice a n c) := by { rw [cellB hb8 _ _ (by first | (simp; done) | (simp; omega) | omega)]; all_goals (first | assumption | go_simp) }; have q18 : w8.cell? ⟨w.heap.size, 1, none⟩ = some (.slice a1 n1 c1) := by { rw [cellB hb8 _ _ (by first | (simp; done) | (simp; omega) | omega)]; all_goals (first | assumption | go_simp) }; have q28 : w8.cell? ⟨w.heap.size, 2, none⟩ = some (.bool g) := by { rw [cellB hb8 _ _ (by first | (simp; done) | (simp; omega) | omega)]; all_goals (first | assumption | go_simp) }; have l8 : w.heap.size < w8.heap.size := by { omega }
  have HB8 := Lib.hid (HB7.out.trans (hb8.mono HB7.out.size))
  clear hb8 hz8 q07 q17 q27 l7
  clear HX
  go_upto_region 6 with fail
  obtain ⟨XA, hXA⟩ : ∃ X, X = w8.heap.size := ⟨_, rfl⟩
  have a09 : (w8.alloc (Obj.cells #[.int .i64 A0, .int .i64 A1, .int .i64 A2, .int .i64 A3] 30)).cell? ⟨XA, 0, none⟩ = some (.int .i64 A0) := by rw [hXA]; go_simp
  have a19 : (w8.alloc (Obj.cells #[.int .i64 A0, .int .i64 A1, .int .i64 A2, .int .i64 A3] 30)).cell? ⟨XA, 1, none⟩ = some (.int .i64 A1) := by rw [hXA]; go_simp
  have a29 : (w8.alloc (Obj.cells #[.int .i64 A0, .int .i64 A1, .int .i64 A2, .int .i64 A3] 30)).cell? ⟨XA, 2, none⟩ = some (.int .i64 A2) := by rw [hXA]; go_simp
  have a39 : (w8.alloc (Obj.cells #[.int .i64 A0, .int .i64 A1, .int .i64 A2, .int .i64 A3] 30)).cell? ⟨XA, 3, none⟩ = some (.int .i64 A3) := by rw [hXA]; go_simp
  have lA9 : XA < (w8.alloc (Obj.cells #[.int .i64 A0, .int .i64 A1, .int .i64 A2, .int .i64 A3] 30)).heap.size := by rw [hXA]; simp
  have hb9 : Below w8.heap.size w8 (w8.alloc (Obj.cells #[.int .i64 A0, .int .i64 A1, .int .i64 A2, .int .i64 A3] 30)) := by (repeat' (first | (with_reducible exact Below.refl _ _) | (with_reducible assumption) | (with_reducible refine Below.drewN ?_ _) | (with_reducible refine Below.alloc ?_ ?_ _) | (with_reducible refine Below.drew ?_) | (with_reducible refine Below.setCell ?_ ?_ _) | (with_reducible refine Below.step (by assumption) ?_ ?_) | (with_reducible exact And.left (by assumption)) | go_size))
  simp only [← hXA]
  generalize (w8.alloc (Obj.cells #[.int .i64 A0, .int .i64 A1, .int .i64 A2, .int .i64 A3] 30)) = w9 at *
  clear hXA
  have hz9 := hb9.size
  have q09 : w9.cell? ⟨w.heap.size, 0, none⟩ = some (.slice a n c) := by { rw [cellB hb9 _ _ (by first | (simp; done) | (simp; omega) | omega)]; all_goals (first | assumption | go_simp) }; have q19 : w9.cell? ⟨w.heap.size, 1, none⟩ = some (.slice a1 n1 c1) := by { rw [cellB hb9 _ _ (by first | (simp; done) | (simp; omega) | omega)]; all_goals (first | assumption | go_simp) }; have q29 : w9.cell? ⟨w.heap.size, 2, none⟩ = some (.bool g) := by { rw [cellB hb9 _ _ (by first | (simp; done) | (simp; omega) | omega)]; all_goals (first | assumption | go_simp) }; have l9 : w.heap.size < w9.heap.size := by { omega }
  have HB9 := Lib.hid (HB8.out.trans (hb9.mono HB8.out.size))
  clear hb9 hz9 q08 q18 q28 l8
  go_wp2_with fail
  refine (HCL.out _ HB9.out).mono ?_
  rintro e10 w10 ⟨a3, c3, a4, c4, rfl, hb10, h1, h2⟩
  have HX := Lib.hid (HGO.out _ _ c3 _ c4 h1 h2)
  clear h1 h2
  have hz10 := hb10.size
  have a010 : w10.cell? ⟨XA, 0, none⟩ = some (.int .i64 A0) := by { rw [cellB hb10 _ _ (by first | (simp; done) | (simp; omega) | omega)]; all_goals (first | assumption | go_simp) }; have a110 : w10.cell? ⟨XA, 1, none⟩ = some (.int .i64 A1) := by { rw [cellB hb10 _ _ (by first | (simp; done) | (simp; omega) | omega)]; all_goals (first | assumption | go_simp) }; have a210 : w10.cell? ⟨XA, 2, none⟩ = some (.int .i64 A2) := by { rw [cellB hb10 _ _ (by first | (simp; done) | (simp; omega) | omega)]; all_goals (first | assumption | go_simp) }; have a310 : w10.cell? ⟨XA, 3, none⟩ = some (.int .i64 A3) := by { rw [cellB hb10 _ _ (by first | (simp; done) | (simp; omega) | omega)]; all_goals (first | assumption | go_simp) }; have lA10 : XA < w10.heap.size := by { omega }
  clear hz10 a09 a19 a29 a39 lA9
  have hz10 := hb10.size
  have q010 : w10.cell? ⟨w.heap.size, 0, none⟩ = some (.slice a n c) := by { rw [cellB hb10 _ _ (by first | (simp; done) | (simp; omega) | omega)]; all_goals (first | assumption | go_simp) }; have q110 : w10.cell? ⟨w.heap.size, 1, none⟩ = some (.slice a1 n1 c1) := by { rw [cellB hb10 _ _ (by first | (simp; done) | (simp; omega) | omega)]; all_goals (first | assumption | go_simp) }; have q210 : w10.cell? ⟨w.heap.size, 2, none⟩ = some (.bool g) := by { rw [cellB hb10 _ _ (by first | (simp; done) | (simp; omega) | omega)]; all_goals (first | assumption | go_simp) }; have l10 : w.heap.size < w10.heap.size := by { omega }
  have HB10 := Lib.hid (HB9.out.trans (hb10.mono HB9.out.size))
  clear hb10 hz10 q09 q19 q29 l9
  go_wp2_with fail
  refine HX.out.mono ?_
  rintro e11 w11 ⟨rfl, hb11⟩
  have hz11 := hb11.size
  have a011 : w11.cell? ⟨XA, 0, none⟩ = some (.int .i64 A0) := by { rw [cellB hb11 _ _ (by first | (simp; done) | (simp; omega) | omega)]; all_goals (first | assumption | go_simp) }; have a111 : w11.cell? ⟨XA, 1, none⟩ = some (.int .i64 A1) := by { rw [cellB hb11 _ _ (by first | (simp; done) | (simp; omega) | omega)]; all_goals (first | assumption | go_simp) }; have a211 : w11.cell? ⟨XA, 2, none⟩ = some (.int .i64 A2) := by { rw [cellB hb11 _ _ (by first | (simp; done) | (simp; omega) | omega)]; all_goals (first | assumption | go_simp) }; have a311 : w11.cell? ⟨XA, 3, none⟩ = some (.int .i64 A3) := by { rw [cellB hb11 _ _ (by first | (simp; done) | (simp; omega) | omega)]; all_goals (first | assumption | go_simp) }; have lA11 : XA < w11.heap.size := by { omega }
  clear hz11 a010 a110 a210 a310 lA10
  have hz11 := hb11.size
  have q011 : w11.cell? ⟨w.heap.size, 0, none⟩ = some (.slice a n c) := by { rw [cellB hb11 _ _ (by first | (simp; done) | (simp; omega) | omega)]; all_goals (first | assumption | go_simp) }; have q111 : w11.cell? ⟨w.heap.size, 1, none⟩ = some (.slice a1 n1 c1) := by { rw [cellB hb11 _ _ (by first | (simp; done) | (simp; omega) | omega)]; all_goals (first | assumption | go_simp) }; have q211 : w11.cell? ⟨w.heap.size, 2, none⟩ = some (.bool g) := by { rw [cellB hb11 _ _ (by first | (simp; done) | (simp; omega) | omega)]; all_goals (first | assumption | go_simp) }; have l11 : w.heap.size < w11.heap.size := by { omega }
  have HB11 := Lib.hid (HB10.out.trans (hb11.mono HB10.out.size))
  clear hb11 hz11 q010 q110 q210 l10
  clear HX
  go_upto_region 7 with fail
  obtain ⟨XB, hXB⟩ : ∃ X, X = w11.heap.size := ⟨_, rfl⟩
  have b012 : (w11.alloc (Obj.cells #[.int .i64 B0, .int .i64 B1, .int .i64 B2, .int .i64 B3] 30)).cell? ⟨XB, 0, none⟩ = some (.int .i64 B0) := by rw [hXB]; go_simp
  have b112 : (w11.alloc (Obj.cells #[.int .i64 B0, .int .i64 B1, .int .i64 B2, .int .i64 B3] 30)).cell? ⟨XB, 1, none⟩ = some (.int .i64 B1) := by rw [hXB]; go_simp
  have b212 : (w11.alloc (Obj.cells #[.int .i64 B0, .int .i64 B1, .int .i64 B2, .int .i64 B3] 30)).cell? ⟨XB, 2, none⟩ = some (.int .i64 B2) := by rw [hXB]; go_simp
  have b312 : (w11.alloc (Obj.cells #[.int .i64 B0, .int .i64 B1, .int .i64 B2, .int .i64 B3] 30)).cell? ⟨XB, 3, none⟩ = some (.int .i64 B3) := by rw [hXB]; go_simp
  have lB12 : XB < (w11.alloc (Obj.cells #[.int .i64 B0, .int .i64 B1, .int .i64 B2, .int .i64 B3] 30)).heap.size := by rw [hXB]; simp
  have hb12 : Below w11.heap.size w11 (w11.alloc (Obj.cells #[.int .i64 B0, .int .i64 B1, .int .i64 B2, .int .i64 B3] 30)) := by (repeat' (first | (with_reducible exact Below.refl _ _) | (with_reducible assumption) | (with_reducible refine Below.drewN ?_ _) | (with_reducible refine Below.alloc ?_ ?_ _) | (with_reducible refine Below.drew ?_) | (with_reducible refine Below.setCell ?_ ?_ _) | (with_reducible refine Below.step (by assumption) ?_ ?_) | (with_reducible exact And.left (by assumption)) | go_size))
  simp only [← hXB]
  generalize (w11.alloc (Obj.cells #[.int .i64 B0, .int .i64 B1, .int .i64 B2, .int .i64 B3] 30)) = w12 at *
  clear hXB
  have hz12 := hb12.size
  have a012 : w12.cell? ⟨XA, 0, none⟩ = some (.int .i64 A0) := by { rw [cellB hb12 _ _ (by first | (simp; done) | (simp; omega) | omega)]; all_goals (first | assumption | go_simp) }; have a112 : w12.cell? ⟨XA, 1, none⟩ = some (.int .i64 A1) := by { rw [cellB hb12 _ _ (by first | (simp; done) | (simp; omega) | omega)]; all_goals (first | assumption | go_simp) }; have a212 : w12.cell? ⟨XA, 2, none⟩ = some (.int .i64 A2) := by { rw [cellB hb12 _ _ (by first | (simp; done) | (simp; omega) | omega)]; all_goals (first | assumption | go_simp) }; have a312 : w12.cell? ⟨XA, 3, none⟩ = some (.int .i64 A3) := by { rw [cellB hb12 _ _ (by first | (simp; done) | (simp; omega) | omega)]; all_goals (first | assumption | go_simp) }; have lA12 : XA < w12.heap.size := by { omega }
  clear hz12 a011 a111 a211 a311 lA11
  have hz12 := hb12.size
  have q012 : w12.cell? ⟨w.heap.size, 0, none⟩ = some (.slice a n c) := by { rw [cellB hb12 _ _ (by first | (simp; done) | (simp; omega) | omega)]; all_goals (first | assumption | go_simp) }; have q112 : w12.cell? ⟨w.heap.size, 1, none⟩ = some (.slice a1 n1 c1) := by { rw [cellB hb12 _ _ (by first | (simp; done) | (simp; omega) | omega)]; all_goals (first | assumption | go_simp) }; have q212 : w12.cell? ⟨w.heap.size, 2, none⟩ = some (.bool g) := by { rw [cellB hb12 _ _ (by first | (simp; done) | (simp; omega) | omega)]; all_goals (first | assumption | go_simp) }; have l12 : w.heap.size < w12.heap.size := by { omega }
  have HB12 := Lib.hid (HB11.out.trans (hb12.mono HB11.out.size))
  clear hb12 hz12 q011 q111 q211 l11
  go_wp2_with fail
  refine (HLE.out _ HB12.out).mono ?_
  rintro e13 w13 ⟨rfl, hb13⟩
  have hz13 := hb13.size
  have b013 : w13.cell? ⟨XB, 0, none⟩ = some (.int .i64 B0) := by { rw [cellB hb13 _ _ (by first | (simp; done) | (simp; omega) | omega)]; all_goals (first | assumption | go_simp) }; have b113 : w13.cell? ⟨XB, 1, none⟩ = some (.int .i64 B1) := by { rw [cellB hb13 _ _ (by first | (simp; done) | (simp; omega) | omega)]; all_goals (first | assumption | go_simp) }; have b213 : w13.cell? ⟨XB, 2, none⟩ = some (.int .i64 B2) := by { rw [cellB hb13 _ _ (by first | (simp; done) | (simp; omega) | omega)]; all_goals (first | assumption | go_simp) }; have b313 : w13.cell? ⟨XB, 3, none⟩ = some (.int .i64 B3) := by { rw [cellB hb13 _ _ (by first | (simp; done) | (simp; omega) | omega)]; all_goals (first | assumption | go_simp) }; have lB13 : XB < w13.heap.size := by { omega }
  clear hz13 b012 b112 b212 b312 lB12
  have hz13 := hb13.size
  have a013 : w13.cell? ⟨XA, 0, none⟩ = some (.int .i64 A0) := by { rw [cellB hb13 _ _ (by first | (simp; done) | (simp; omega) | omega)]; all_goals (first | assumption | go_simp) }; have a113 : w13.cell? ⟨XA, 1, none⟩ = some (.int .i64 A1) := by { rw [cellB hb13 _ _ (by first | (simp; done) | (simp; omega) | omega)]; all_goals (first | assumption | go_simp) }; have a213 : w13.cell? ⟨XA, 2, none⟩ = some (.int .i64 A2) := by { rw [cellB hb13 _ _ (by first | (simp; done) | (simp; omega) | omega)]; all_goals (first | assumption | go_simp) }; have a313 : w13.cell? ⟨XA, 3, none⟩ = some (.int .i64 A3) := by { rw [cellB hb13 _ _ (by first | (simp; done) | (simp; omega) | omega)]; all_goals (first | assumption | go_simp) }; have lA13 : XA < w13.heap.size := by { omega }
  clear hz13 a012 a112 a212 a312 lA12
  have hz13 := hb13.size
  have q013 : w13.cell? ⟨w.heap.size, 0, none⟩ = some (.slice a n c) := by { rw [cellB hb13 _ _ (by first | (simp; done) | (simp; omega) | omega)]; all_goals (first | assumption | go_simp) }; have q113 : w13.cell? ⟨w.heap.size, 1, none⟩ = some (.slice a1 n1 c1) := by { rw [cellB hb13 _ _ (by first | (simp; done) | (simp; omega) | omega)]; all_goals (first | assumption | go_simp) }; have q213 : w13.cell? ⟨w.heap.size, 2, none⟩ = some (.bool g) := by { rw [cellB hb13 _ _ (by first | (simp; done) | (simp; omega) | omega)]; all_goals (first | assumption | go_simp) }; have l13 : w.heap.size < w13.heap.size := by { omega }
  have HB13 := Lib.hid (HB12.out.trans (hb13.mono HB12.out.size))
  clear hb13 hz13 q012 q112 q212 l12
  go_wp2_with fail
  refine (HCL.out _ HB13.out).mono ?_
  rintro e14 w14 ⟨a3, c3, a4, c4, rfl, hb14, h1, h2⟩
  have HX := Lib.hid (HCK.out _ _ c3 _ c4 h1 h2)
  clear h1 h2
  have hz14 := hb14.size
  have b014 : w14.cell? ⟨XB, 0, none⟩ = some (.int .i64 B0) := by { rw [cellB hb14 _ _ (by first | (simp; done) | (simp; omega) | omega)]; all_goals (first | assumption | go_simp) }; have b114 : w14.cell? ⟨XB, 1, none⟩ = some (.int .i64 B1) := by { rw [cellB hb14 _ _ (by first | (simp; done) | (simp; omega) | omega)]; all_goals (first | assumption | go_simp) }; have b214 : w14.cell? ⟨XB, 2, none⟩ = some (.int .i64 B2) := by { rw [cellB hb14 _ _ (by first | (simp; done) | (simp; omega) | omega)]; all_goals (first | assumption | go_simp) }; have b314 : w14.cell? ⟨XB, 3, none⟩ = some (.int .i64 B3) := by { rw [cellB hb14 _ _ (by first | (simp; done) | (simp; omega) | omega)]; all_goals (first | assumption | go_simp) }; have lB14 : XB < w14.heap.size := by { omega }
  clear hz14 b013 b113 b213 b313 lB13
  have hz14 := hb14.size
  have a014 : w14.cell? ⟨XA, 0, none⟩ = some (.int .i64 A0) := by { rw [cellB hb14 _ _ (by first | (simp; done) | (simp; omega) | omega)]; all_goals (first | assumption | go_simp) }; have a114 : w14.cell? ⟨XA, 1, none⟩ = some (.int .i64 A1) := by { rw [cellB hb14 _ _ (by first | (simp; done) | (simp; omega) | omega)]; all_goals (first | assumption | go_simp) }; have a214 : w14.cell? ⟨XA, 2, none⟩ = some (.int .i64 A2) := by { rw [cellB hb14 _ _ (by first | (simp; done) | (simp; omega) | omega)]; all_goals (first | assumption | go_simp) }; have a314 : w14.cell? ⟨XA, 3, none⟩ = some (.int .i64 A3) := by { rw [cellB hb14 _ _ (by first | (simp; done) | (simp; omega) | omega)]; all_goals (first | assumption | go_simp) }; have lA14 : XA < w14.heap.size := by { omega }
  clear hz14 a013 a113 a213 a313 lA13
  have hz14 := hb14.size
  have q014 : w14.cell? ⟨w.heap.size, 0, none⟩ = some (.slice a n c) := by { rw [cellB hb14 _ _ (by first | (simp; done) | (simp; omega) | omega)]; all_goals (first | assumption | go_simp) }; have q114 : w14.cell? ⟨w.heap.size, 1, none⟩ = some (.slice a1 n1 c1) := by { rw [cellB hb14 _ _ (by first | (simp; done) | (simp; omega) | omega)]; all_goals (first | assumption | go_simp) }; have q214 : w14.cell? ⟨w.heap.size, 2, none⟩ = some (.bool g) := by { rw [cellB hb14 _ _ (by first | (simp; done) | (simp; omega) | omega)]; all_goals (first | assumption | go_simp) }; have l14 : w.heap.size < w14.heap.size := by { omega }
  have HB14 := Lib.hid (HB13.out.trans (hb14.mono HB13.out.size))
  clear hb14 hz14 q013 q113 q213 l13
  go_wp2_with fail
  refine HX.out.mono ?_
  rintro e15 w15 ⟨rfl, hb15⟩
  have hz15 := hb15.size
  have b015 : w15.cell? ⟨XB, 0, none⟩ = some (.int .i64 B0) := by { rw [cellB hb15 _ _ (by first | (simp; done) | (simp; omega) | omega)]; all_goals (first | assumption | go_simp) }; have b115 : w15.cell? ⟨XB, 1, none⟩ = some (.int .i64 B1) := by { rw [cellB hb15 _ _ (by first | (simp; done) | (simp; omega) | omega)]; all_goals (first | assumption | go_simp) }; have b215 : w15.cell? ⟨XB, 2, none⟩ = some (.int .i64 B2) := by { rw [cellB hb15 _ _ (by first | (simp; done) | (simp; omega) | omega)]; all_goals (first | assumption | go_simp) }; have b315 : w15.cell? ⟨XB, 3, none⟩ = some (.int .i64 B3) := by { rw [cellB hb15 _ _ (by first | (simp; done) | (simp; omega) | omega)]; all_goals (first | assumption | go_simp) }; have lB15 : XB < w15.heap.size := by { omega }
  clear hz15 b014 b114 b214 b314 lB14
  have hz15 := hb15.size
  have a015 : w15.cell? ⟨XA, 0, none⟩ = some (.int .i64 A0) := by { rw [cellB hb15 _ _ (by first | (simp; done) | (simp; omega) | omega)]; all_goals (first | assumption | go_simp) }; have a115 : w15.cell? ⟨XA, 1, none⟩ = some (.int .i64 A1) := by { rw [cellB hb15 _ _ (by first | (simp; done) | (simp; omega) | omega)]; all_goals (first | assumption | go_simp) }; have a215 : w15.cell? ⟨XA, 2, none⟩ = some (.int .i64 A2) := by { rw [cellB hb15 _ _ (by first | (simp; done) | (simp; omega) | omega)]; all_goals (first | assumption | go_simp) }; have a315 : w15.cell? ⟨XA, 3, none⟩ = some (.int .i64 A3) := by { rw [cellB hb15 _ _ (by first | (simp; done) | (simp; omega) | omega)]; all_goals (first | assumption | go_simp) }; have lA15 : XA < w15.heap.size := by { omega }
  clear hz15 a014 a114 a214 a314 lA14
  have hz15 := hb15.size
  have q015 : w15.cell? ⟨w.heap.size, 0, none⟩ = some (.slice a n c) := by { rw [cellB hb15 _ _ (by first | (simp; done) | (simp; omega) | omega)]; all_goals (first | assumption | go_simp) }; have q115 : w15.cell? ⟨w.heap.size, 1, none⟩ = some (.slice a1 n1 c1) := by { rw [cellB hb15 _ _ (by first | (simp; done) | (simp; omega) | omega)]; all_goals (first | assumption | go_simp) }; have q215 : w15.cell? ⟨w.heap.size, 2, none⟩ = some (.bool g) := by { rw [cellB hb15 _ _ (by first | (simp; done) | (simp; omega) | omega)]; all_goals (first | assumption | go_simp) }; have l15 : w.heap.size < w15.heap.size := by { omega }
  have HB15 := Lib.hid (HB14.out.trans (hb15.mono HB14.out.size))
  clear hb15 hz15 q014 q114 q214 l14
  clear HX
  obtain ⟨⟨rfl, rfl, rfl, rfl⟩, rfl, rfl, rfl, rfl⟩ := HZ.out
  go_wp2
  go_ret
  exact ⟨rfl, HB15.out⟩
set_option maxHeartbeats 2000000 in
set_option maxRecDepth 100000 in
theorem spans_core (s e : List (Int × Int)) (node gap : Int) (a a1 : Option Addr) (n c n1 c1 : Nat) (g : Bool) (w : World) (hs : PairsR w a n s) (he : PairsR w a1 n1 e) (hn : n ≤ 6) (hn1 : n1 ≤ 6) (hn0 : 0 < n)
    (A0 A1 A2 A3 EA B0 B1 B2 B3 EB : Int) (bN bG : Bool) (hEE : rngErr s e = 0) (hwn : wi node 0 n = bN) (hwg : wi gap 0 ((n : Int) - 1) = bG)
    (hno : ∀ (v : World) a3 c3 a4 c4, PairsR v a3 n s → PairsR v a4 n1 e → Calls Try.prog 11 #[.agg #[.slice a3 n c3, .slice a4 n1 c4, .bool g], .int .i64 node] v fun e' w' => e' = .returned (.tuple #[.agg #[.int .i64 A0, .int .i64 A1, .int .i64 A2, .int .i64 A3], .int .i64 EA]) ∧ Below v.heap.size v w')
    (hgo : ∀ (v : World) a3 c3 a4 c4, PairsR v a3 n s → PairsR v a4 n1 e → Calls Try.prog 13 #[.agg #[.slice a3 n c3, .slice a4 n1 c4, .bool g], .int .i64 gap] v fun e' w' => e' = .returned (.tuple #[.agg #[.int .i64 B0, .int .i64 B1, .int .i64 B2, .int .i64 B3], .int .i64 EB]) ∧ Below v.heap.size v w')
    (hbn : bN = false → EA = 6 ∧ A0 = 0 ∧ A1 = 0 ∧ A2 = 0 ∧ A3 = 0) (hbg : bG = false → EB = 6 ∧ B0 = 0 ∧ B1 = 0 ∧ B2 = 0 ∧ B3 = 0)
    (hrn : bN = true → ∃ v, SpOk A0 A1 A2 A3 EA v ∧ ∀ w1, Below w.heap.size w w1 → Calls Try.prog 17 #[.agg #[.slice a n c, .slice a1 n1 c1, .bool g], .int .i64 node] w1 fun e' w' => e' = .returned v ∧ Below w1.heap.size w1 w')
    (hrg : bG = true → ∃ v, SpOk B0 B1 B2 B3 EB v ∧ ∀ w1, Below w.heap.size w w1 → Calls Try.prog 19 #[.agg #[.slice a n c, .slice a1 n1 c1, .bool g], .int .i64 gap] w1 fun e' w' => e' = .returned v ∧ Below w1.heap.size w1 w') :
    Calls Try.prog 3 #[.agg #[.slice a n c, .slice a1 n1 c1, .bool g], .int .i64 node, .int .i64 gap] w fun e' w' => e' = .returned (.bool true) ∧ Below w.heap.size w w' := by
  have HFS := Lib.hid (fun w' => fewRanges_any a a1 n c n1 c1 g w' hs.small he.small)
  rw [show (decide ((n : Int) ≤ 8) && decide ((n1 : Int) ≤ 8)) = true by simp; omega] at HFS
  have HCL := Lib.hid (fun (v : World) (hv : Below w.heap.size w v) => copySpans_any s e a a1 n c n1 c1 g v (hs.below hv) (he.below hv) (by omega) (by omega))
  have HNO := Lib.hid hno
  have HGO := Lib.hid hgo
  have HCK := Lib.hid (fun (v : World) a3 c3 a4 c4 (h1 : PairsR v a3 n s) (h2 : PairsR v a4 n1 e) => checkRanges_any s e a3 a4 n c3 n1 c4 g v h1 h2)
  have HLE := Lib.hid (fun (v : World) (hv : Below w.heap.size w v) => rrangesErr_any s e a a1 n c n1 c1 g v (hs.below hv) (he.below hv))
  rw [hEE] at HCK HLE
  have HWN := Lib.hid (fun w' => bwithin_any node 0 n w')
  have HWG := Lib.hid (fun w' => bwithin_any gap 0 ((n : Int) - 1) w')
  rw [hwn] at HWN
  rw [hwg] at HWG
  have HBN := Lib.hid hbn
  have HBG := Lib.hid hbg
  have HRN := Lib.hid hrn
  have HRG := Lib.hid hrg
  clear hs he hEE hwn hwg hno hgo hbn hbg hrn hrg
  go_enter Try.func3, Try.ntmps3
  go_wp2_with fail
  refine (awake_any _).mono ?_
  rintro e5 w5 ⟨rfl, hb5⟩
  have hz5 := hb5.size
  simp only [World.size_alloc] at hz5
  have q05 : w5.cell? ⟨w.heap.size, 0, none⟩ = some (.slice a n c) := by { rw [cellB hb5 _ _ (by first | (simp; done) | (simp; omega) | omega)]; all_goals (first | assumption | go_simp) }; have q15 : w5.cell? ⟨w.heap.size, 1, none⟩ = some (.slice a1 n1 c1) := by { rw [cellB hb5 _ _ (by first | (simp; done) | (simp; omega) | omega)]; all_goals (first | assumption | go_simp) }; have q25 : w5.cell? ⟨w.heap.size, 2, none⟩ = some (.bool g) := by { rw [cellB hb5 _ _ (by first | (simp; done) | (simp; omega) | omega)]; all_goals (first | assumption | go_simp) }; have l5 : w.heap.size < w5.heap.size := by { omega }
  have HB5 := Lib.hid (show Below w.heap.size w w5 by (repeat' (first | (with_reducible exact Below.refl _ _) | (with_reducible assumption) | (with_reducible refine Below.drewN ?_ _) | (with_reducible refine Below.alloc ?_ ?_ _) | (with_reducible refine Below.drew ?_) | (with_reducible refine Below.setCell ?_ ?_ _) | (with_reducible refine Below.step (by assumption) ?_ ?_) | (with_reducible exact And.left (by assumption)) | go_size)))
  clear hb5 hz5
  go_wp2_with fail
  refine (HFS.out _).mono ?_
  rintro e6 w6 ⟨rfl, hb6⟩
  have hz6 := hb6.size
  have q06 : w6.cell? ⟨w.heap.size, 0, none⟩ = some (.slice a n c) := by { rw [cellB hb6 _ _ (by first | (simp; done) | (simp; omega) | omega)]; all_goals (first | assumption | go_simp) }; have q16 : w6.cell? ⟨w.heap.size, 1, none⟩ = some (.slice a1 n1 c1) := by { rw [cellB hb6 _ _ (by first | (simp; done) | (simp; omega) | omega)]; all_goals (first | assumption | go_simp) }; have q26 : w6.cell? ⟨w.heap.size, 2, none⟩ = some (.bool g) := by { rw [cellB hb6 _ _ (by first | (simp; done) | (simp; omega) | omega)]; all_goals (first | assumption | go_simp) }; have l6 : w.heap.size < w6.heap.size := by { omega }
  have HB6 := Lib.hid (HB5.out.trans (hb6.mono HB5.out.size))
  clear hb6 hz6 q05 q15 q25 l5
  go_wp2_with fail
  refine (HCL.out _ HB6.out).mono ?_
  rintro e7 w7 ⟨a3, c3, a4, c4, rfl, hb7, h1, h2⟩
  have HX := Lib.hid (HNO.out _ _ c3 _ c4 h1 h2)
  clear h1 h2
  have hz7 := hb7.size
  have q07 : w7.cell? ⟨w.heap.size, 0, none⟩ = some (.slice a n c) := by { rw [cellB hb7 _ _ (by first | (simp; done) | (simp; omega) | omega)]; all_goals (first | assumption | go_simp) }; have q17 : w7.cell? ⟨w.heap.size, 1, none⟩ = some (.slice a1 n1 c1) := by { rw [cellB hb7 _ _ (by first | (simp; done) | (simp; omega) | omega)]; all_goals (first | assumption | go_simp) }; have q27 : w7.cell? ⟨w.heap.size, 2, none⟩ = some (.bool g) := by { rw [cellB hb7 _ _ (by first | (simp; done) | (simp; omega) | omega)]; all_goals (first | assumption | go_simp) }; have l7 : w.heap.size < w7.heap.size := by { omega }
  have HB7 := Lib.hid (HB6.out.trans (hb7.mono HB6.out.size))
  clear hb7 hz7 q06 q16 q26 l6
  go_wp2_with fail
  refine HX.out.mono ?_
  rintro e8 w8 ⟨rfl, hb8⟩
  have hz8 := hb8.size
  have q08 : w8.cell? ⟨w.heap.size, 0, none⟩ = some (.slice a n c) := by { rw [cellB hb8 _ _ (by first | (simp; done) | (simp; omega) | omega)]; all_goals (first | assumption | go_simp) }; have q18 : w8.cell? ⟨w.heap.size, 1, none⟩ = some (.slice a1 n1 c1) := by { rw [cellB hb8 _ _ (by first | (simp; done) | (simp; omega) | omega)]; all_goals (first | assumption | go_simp) }; have q28 : w8.cell? ⟨w.heap.size, 2, none⟩ = some (.bool g) := by { rw [cellB hb8 _ _ (by first | (simp; done) | (simp; omega) | omega)]; all_goals (first | assumption | go_simp) }; have l8 : w.heap.size < w8.heap.size := by { omega }
  have HB8 := Lib.hid (HB7.out.trans (hb8.mono HB7.out.size))
  clear hb8 hz8 q07 q17 q27 l7
  clear HX
  go_upto_region 6 with fail
  obtain ⟨XA, hXA⟩ : ∃ X, X = w8.heap.size := ⟨_, rfl⟩
  have a09 : (w8.alloc (Obj.cells #[.int .i64 A0, .int .i64 A1, .int .i64 A2, .int .i64 A3] 30)).cell? ⟨XA, 0, none⟩ = some (.int .i64 A0) := by rw [hXA]; go_simp
  have a19 : (w8.alloc (Obj.cells #[.int .i64 A0, .int .i64 A1, .int .i64 A2, .int .i64 A3] 30)).cell? ⟨XA, 1, none⟩ = some (.int .i64 A1) := by rw [hXA]; go_simp
  have a29 : (w8.alloc (Obj.cells #[.int .i64 A0, .int .i64 A1, .int .i64 A2, .int .i64 A3] 30)).cell? ⟨XA, 2, none⟩ = some (.int .i64 A2) := by rw [hXA]; go_simp
  have a39 : (w8.alloc (Obj.cells #[.int .i64 A0, .int .i64 A1, .int .i64 A2, .int .i64 A3] 30)).cell? ⟨XA, 3, none⟩ = some (.int .i64 A3) := by rw [hXA]; go_simp
  have lA9 : XA < (w8.alloc (Obj.cells #[.int .i64 A0, .int .i64 A1, .int .i64 A2, .int .i64 A3] 30)).heap.size := by rw [hXA]; simp
  have hb9 : Below w8.heap.size w8 (w8.alloc (Obj.cells #[.int .i64 A0, .int .i64 A1, .int .i64 A2, .int .i64 A3] 30)) := by (repeat' (first | (with_reducible exact Below.refl _ _) | (with_reducible assumption) | (with_reducible refine Below.drewN ?_ _) | (with_reducible refine Below.alloc ?_ ?_ _) | (with_reducible refine Below.drew ?_) | (with_reducible refine Below.setCell ?_ ?_ _) | (with_reducible refine Below.step (by assumption) ?_ ?_) | (with_reducible exact And.left (by assumption)) | go_size))
  simp only [← hXA]
  generalize (w8.alloc (Obj.cells #[.int .i64 A0, .int .i64 A1, .int .i64 A2, .int .i64 A3] 30)) = w9 at *
  clear hXA
  have hz9 := hb9.size
  have q09 : w9.cell? ⟨w.heap.size, 0, none⟩ = some (.slice a n c) := by { rw [cellB hb9 _ _ (by first | (simp; done) | (simp; omega) | omega)]; all_goals (first | assumption | go_simp) }; have q19 : w9.cell? ⟨w.heap.size, 1, none⟩ = some (.slice a1 n1 c1) := by { rw [cellB hb9 _ _ (by first | (simp; done) | (simp; omega) | omega)]; all_goals (first | assumption | go_simp) }; have q29 : w9.cell? ⟨w.heap.size, 2, none⟩ = some (.bool g) := by { rw [cellB hb9 _ _ (by first | (simp; done) | (simp; omega) | omega)]; all_goals (first | assumption | go_simp) }; have l9 : w.heap.size < w9.heap.size := by { omega }
  have HB9 := Lib.hid (HB8.out.trans (hb9.mono HB8.out.size))
  clear hb9 hz9 q08 q18 q28 l8
  go_wp2_with fail
  refine (HCL.out _ HB9.out).mono ?_
  rintro e10 w10 ⟨a3, c3, a4, c4, rfl, hb10, h1, h2⟩
  have HX := Lib.hid (HGO.out _ _ c3 _ c4 h1 h2)
  clear h1 h2
  have hz10 := hb10.size
  have a010 : w10.cell? ⟨XA, 0, none⟩ = some (.int .i64 A0) := by { rw [cellB hb10 _ _ (by first | (simp; done) | (simp; omega) | omega)]; all_goals (first | assumption | go_simp) }; have a110 : w10.cell? ⟨XA, 1, none⟩ = some (.int .i64 A1) := by { rw [cellB hb10 _ _ (by first | (simp; done) | (simp; omega) | omega)]; all_goals (first | assumption | go_simp) }; have a210 : w10.cell? ⟨XA, 2, none⟩ = some (.int .i64 A2) := by { rw [cellB hb10 _ _ (by first | (simp; done) | (simp; omega) | omega)]; all_goals (first | assumption | go_simp) }; have a310 : w10.cell? ⟨XA, 3, none⟩ = some (.int .i64 A3) := by { rw [cellB hb10 _ _ (by first | (simp; done) | (simp; omega) | omega)]; all_goals (first | assumption | go_simp) }; have lA10 : XA < w10.heap.size := by { omega }
  clear hz10 a09 a19 a29 a39 lA9
  have hz10 := hb10.size
  have q010 : w10.cell? ⟨w.heap.size, 0, none⟩ = some (.slice a n c) := by { rw [cellB hb10 _ _ (by first | (simp; done) | (simp; omega) | omega)]; all_goals (first | assumption | go_simp) }; have q110 : w10.cell? ⟨w.heap.size, 1, none⟩ = some (.slice a1 n1 c1) := by { rw [cellB hb10 _ _ (by first | (simp; done) | (simp; omega) | omega)]; all_goals (first | assumption | go_simp) }; have q210 : w10.cell? ⟨w.heap.size, 2, none⟩ = some (.bool g) := by { rw [cellB hb10 _ _ (by first | (simp; done) | (simp; omega) | omega)]; all_goals (first | assumption | go_simp) }; have l10 : w.heap.size < w10.heap.size := by { omega }
  have HB10 := Lib.hid (HB9.out.trans (hb10.mono HB9.out.size))
  clear hb10 hz10 q09 q19 q29 l9
  go_wp2_with fail
  refine HX.out.mono ?_
  rintro e11 w11 ⟨rfl, hb11⟩
  have hz11 := hb11.size
  have a011 : w11.cell? ⟨XA, 0, none⟩ = some (.int .i64 A0) := by { rw [cellB hb11 _ _ (by first | (simp; done) | (simp; omega) | omega)]; all_goals (first | assumption | go_simp) }; have a111 : w11.cell? ⟨XA, 1, none⟩ = some (.int .i64 A1) := by { rw [cellB hb11 _ _ (by first | (simp; done) | (simp; omega) | omega)]; all_goals (first | assumption | go_simp) }; have a211 : w11.cell? ⟨XA, 2, none⟩ = some (.int .i64 A2) := by { rw [cellB hb11 _ _ (by first | (simp; done) | (simp; omega) | omega)]; all_goals (first | assumption | go_simp) }; have a311 : w11.cell? ⟨XA, 3, none⟩ = some (.int .i64 A3) := by { rw [cellB hb11 _ _ (by first | (simp; done) | (simp; omega) | omega)]; all_goals (first | assumption | go_simp) }; have lA11 : XA < w11.heap.size := by { omega }
  clear hz11 a010 a110 a210 a310 lA10
  have hz11 := hb11.size
  have q011 : w11.cell? ⟨w.heap.size, 0, none⟩ = some (.slice a n c) := by { rw [cellB hb11 _ _ (by first | (simp; done) | (simp; omega) | omega)]; all_goals (first | assumption | go_simp) }; have q111 : w11.cell? ⟨w.heap.size, 1, none⟩ = some (.slice a1 n1 c1) := by { rw [cellB hb11 _ _ (by first | (simp; done) | (simp; omega) | omega)]; all_goals (first | assumption | go_simp) }; have q211 : w11.cell? ⟨w.heap.size, 2, none⟩ = some (.bool g) := by { rw [cellB hb11 _ _ (by first | (simp; done) | (simp; omega) | omega)]; all_goals (first | assumption | go_simp) }; have l11 : w.heap.size < w11.heap.size := by { omega }
  have HB11 := Lib.hid (HB10.out.trans (hb11.mono HB10.out.size))
  clear hb11 hz11 q010 q110 q210 l10
  clear HX
  go_upto_region 7 with fail
  obtain ⟨XB, hXB⟩ : ∃ X, X = w11.heap.size := ⟨_, rfl⟩
  have b012 : (w11.alloc (Obj.cells #[.int .i64 B0, .int .i64 B1, .int .i64 B2, .int .i64 B3] 30)).cell? ⟨XB, 0, none⟩ = some (.int .i64 B0) := by rw [hXB]; go_simp
  have b112 : (w11.alloc (Obj.cells #[.int .i64 B0, .int .i64 B1, .int .i64 B2, .int .i64 B3] 30)).cell? ⟨XB, 1, none⟩ = some (.int .i64 B1) := by rw [hXB]; go_simp
  have b212 : (w11.alloc (Obj.cells #[.int .i64 B0, .int .i64 B1, .int .i64 B2, .int .i64 B3] 30)).cell? ⟨XB, 2, none⟩ = some (.int .i64 B2) := by rw [hXB]; go_simp
  have b312 : (w11.alloc (Obj.cells #[.int .i64 B0, .int .i64 B1, .int .i64 B2, .int .i64 B3] 30)).cell? ⟨XB, 3, none⟩ = some (.int .i64 B3) := by rw [hXB]; go_simp
  have lB12 : XB < (w11.alloc (Obj.cells #[.int .i64 B0, .int .i64 B1, .int .i64 B2, .int .i64 B3] 30)).heap.size := by rw [hXB]; simp
  have hb12 : Below w11.heap.size w11 (w11.alloc (Obj.cells #[.int .i64 B0, .int .i64 B1, .int .i64 B2, .int .i64 B3] 30)) := by (repeat' (first | (with_reducible exact Below.refl _ _) | (with_reducible assumption) | (with_reducible refine Below.drewN ?_ _) | (with_reducible refine Below.alloc ?_ ?_ _) | (with_reducible refine Below.drew ?_) | (with_reducible refine Below.setCell ?_ ?_ _) | (with_reducible refine Below.step (by assumption) ?_ ?_) | (with_reducible exact And.left (by assumption)) | go_size))
  simp only [← hXB]
  generalize (w11.alloc (Obj.cells #[.int .i64 B0, .int .i64 B1, .int .i64 B2, .int .i64 B3] 30)) = w12 at *
  clear hXB
  have hz12 := hb12.size
  have a012 : w12.cell? ⟨XA, 0, none⟩ = some (.int .i64 A0) := by { rw [cellB hb12 _ _ (by first | (simp; done) | (simp; omega) | omega)]; all_goals (first | assumption | go_simp) }; have a112 : w12.cell? ⟨XA, 1, none⟩ = some (.int .i64 A1) := by { rw [cellB hb12 _ _ (by first | (simp; done) | (simp; omega) | omega)]; all_goals (first | assumption | go_simp) }; have a212 : w12.cell? ⟨XA, 2, none⟩ = some (.int .i64 A2) := by { rw [cellB hb12 _ _ (by first | (simp; done) | (simp; omega) | omega)]; all_goals (first | assumption | go_simp) }; have a312 : w12.cell? ⟨XA, 3, none⟩ = some (.int .i64 A3) := by { rw [cellB hb12 _ _ (by first | (simp; done) | (simp; omega) | omega)]; all_goals (first | assumption | go_simp) }; have lA12 : XA < w12.heap.size := by { omega }
  clear hz12 a011 a111 a211 a311 lA11
  have hz12 := hb12.size
  have q012 : w12.cell? ⟨w.heap.size, 0, none⟩ = some (.slice a n c) := by { rw [cellB hb12 _ _ (by first | (simp; done) | (simp; omega) | omega)]; all_goals (first | assumption | go_simp) }; have q112 : w12.cell? ⟨w.heap.size, 1, none⟩ = some (.slice a1 n1 c1) := by { rw [cellB hb12 _ _ (by first | (simp; done) | (simp; omega) | omega)]; all_goals (first | assumption | go_simp) }; have q212 : w12.cell? ⟨w.heap.size, 2, none⟩ = some (.bool g) := by { rw [cellB hb12 _ _ (by first | (simp; done) | (simp; omega) | omega)]; all_goals (first | assumption | go_simp) }; have l12 : w.heap.size < w12.heap.size := by { omega }
  have HB12 := Lib.hid (HB11.out.trans (hb12.mono HB11.out.size))
  clear hb12 hz12 q011 q111 q211 l11
  go_wp2_with fail
  refine (HLE.out _ HB12.out).mono ?_
  rintro e13 w13 ⟨rfl, hb13⟩
  have hz13 := hb13.size
  have b013 : w13.cell? ⟨XB, 0, none⟩ = some (.int .i64 B0) := by { rw [cellB hb13 _ _ (by first | (simp; done) | (simp; omega) | omega)]; all_goals (first | assumption | go_simp) }; have b113 : w13.cell? ⟨XB, 1, none⟩ = some (.int .i64 B1) := by { rw [cellB hb13 _ _ (by first | (simp; done) | (simp; omega) | omega)]; all_goals (first | assumption | go_simp) }; have b213 : w13.cell? ⟨XB, 2, none⟩ = some (.int .i64 B2) := by { rw [cellB hb13 _ _ (by first | (simp; done) | (simp; omega) | omega)]; all_goals (first | assumption | go_simp) }; have b313 : w13.cell? ⟨XB, 3, none⟩ = some (.int .i64 B3) := by { rw [cellB hb13 _ _ (by first | (simp; done) | (simp; omega) | omega)]; all_goals (first | assumption | go_simp) }; have lB13 : XB < w13.heap.size := by { omega }
  clear hz13 b012 b112 b212 b312 lB12
  have hz13 := hb13.size
  have a013 : w13.cell? ⟨XA, 0, none⟩ = some (.int .i64 A0) := by { rw [cellB hb13 _ _ (by first | (simp; done) | (simp; omega) | omega)]; all_goals (first | assumption | go_simp) }; have a113 : w13.cell? ⟨XA, 1, none⟩ = some (.int .i64 A1) := by { rw [cellB hb13 _ _ (by first | (simp; done) | (simp; omega) | omega)]; all_goals (first | assumption | go_simp) }; have a213 : w13.cell? ⟨XA, 2, none⟩ = some (.int .i64 A2) := by { rw [cellB hb13 _ _ (by first | (simp; done) | (simp; omega) | omega)]; all_goals (first | assumption | go_simp) }; have a313 : w13.cell? ⟨XA, 3, none⟩ = some (.int .i64 A3) := by { rw [cellB hb13 _ _ (by first | (simp; done) | (simp; omega) | omega)]; all_goals (first | assumption | go_simp) }; have lA13 : XA < w13.heap.size := by { omega }
  clear hz13 a012 a112 a212 a312 lA12
  have hz13 := hb13.size
  have q013 : w13.cell? ⟨w.heap.size, 0, none⟩ = some (.slice a n c) := by { rw [cellB hb13 _ _ (by first | (simp; done) | (simp; omega) | omega)]; all_goals (first | assumption | go_simp) }; have q113 : w13.cell? ⟨w.heap.size, 1, none⟩ = some (.slice a1 n1 c1) := by { rw [cellB hb13 _ _ (by first | (simp; done) | (simp; omega) | omega)]; all_goals (first | assumption | go_simp) }; have q213 : w13.cell? ⟨w.heap.size, 2, none⟩ = some (.bool g) := by { rw [cellB hb13 _ _ (by first | (simp; done) | (simp; omega) | omega)]; all_goals (first | assumption | go_simp) }; have l13 : w.heap.size < w13.heap.size := by { omega }
  have HB13 := Lib.hid (HB12.out.trans (hb13.mono HB12.out.size))
  clear hb13 hz13 q012 q112 q212 l12
  go_wp2_with fail
  refine (HCL.out _ HB13.out).mono ?_
  rintro e14 w14 ⟨a3, c3, a4, c4, rfl, hb14, h1, h2⟩
  have HX := Lib.hid (HCK.out _ _ c3 _ c4 h1 h2)
  clear h1 h2
  have hz14 := hb14.size
  have b014 : w14.cell? ⟨XB, 0, none⟩ = some (.int .i64 B0) := by { rw [cellB hb14 _ _ (by first | (simp; done) | (simp; omega) | omega)]; all_goals (first | assumption | go_simp) }; have b114 : w14.cell? ⟨XB, 1, none⟩ = some (.int .i64 B1) := by { rw [cellB hb14 _ _ (by first | (simp; done) | (simp; omega) | omega)]; all_goals (first | assumption | go_simp) }; have b214 : w14.cell? ⟨XB, 2, none⟩ = some (.int .i64 B2) := by { rw [cellB hb14 _ _ (by first | (simp; done) | (simp; omega) | omega)]; all_goals (first | assumption | go_simp) }; have b314 : w14.cell? ⟨XB, 3, none⟩ = some (.int .i64 B3) := by { rw [cellB hb14 _ _ (by first | (simp; done) | (simp; omega) | omega)]; all_goals (first | assumption | go_simp) }; have lB14 : XB < w14.heap.size := by { omega }
  clear hz14 b013 b113 b213 b313 lB13
  have hz14 := hb14.size
  have a014 : w14.cell? ⟨XA, 0, none⟩ = some (.int .i64 A0) := by { rw [cellB hb14 _ _ (by first | (simp; done) | (simp; omega) | omega)]; all_goals (first | assumption | go_simp) }; have a114 : w14.cell? ⟨XA, 1, none⟩ = some (.int .i64 A1) := by { rw [cellB hb14 _ _ (by first | (simp; done) | (simp; omega) | omega)]; all_goals (first | assumption | go_simp) }; have a214 : w14.cell? ⟨XA, 2, none⟩ = some (.int .i64 A2) := by { rw [cellB hb14 _ _ (by first | (simp; done) | (simp; omega) | omega)]; all_goals (first | assumption | go_simp) }; have a314 : w14.cell? ⟨XA, 3, none⟩ = some (.int .i64 A3) := by { rw [cellB hb14 _ _ (by first | (simp; done) | (simp; omega) | omega)]; all_goals (first | assumption | go_simp) }; have lA14 : XA < w14.heap.size := by { omega }
  clear hz14 a013 a113 a213 a313 lA13
  have hz14 := hb14.size
  have q014 : w14.cell? ⟨w.heap.size, 0, none⟩ = some (.slice a n c) := by { rw [cellB hb14 _ _ (by first | (simp; done) | (simp; omega) | omega)]; all_goals (first | assumption | go_simp) }; have q114 : w14.cell? ⟨w.heap.size, 1, none⟩ = some (.slice a1 n1 c1) := by { rw [cellB hb14 _ _ (by first | (simp; done) | (simp; omega) | omega)]; all_goals (first | assumption | go_simp) }; have q214 : w14.cell? ⟨w.heap.size, 2, none⟩ = some (.bool g) := by { rw [cellB hb14 _ _ (by first | (simp; done) | (simp; omega) | omega)]; all_goals (first | assumption | go_simp) }; have l14 : w.heap.size < w14.heap.size := by { omega }
  have HB14 := Lib.hid (HB13.out.trans (hb14.mono HB13.out.size))
  clear hb14 hz14 q013 q113 q213 l13
  go_wp2_with fail
  refine HX.out.mono ?_
  rintro e15 w15 ⟨rfl, hb15⟩
  have hz15 := hb15.size
  have b015 : w15.cell? ⟨XB, 0, none⟩ = some (.int .i64 B0) := by { rw [cellB hb15 _ _ (by first | (simp; done) | (simp; omega) | omega)]; all_goals (first | assumption | go_simp) }; have b115 : w15.cell? ⟨XB, 1, none⟩ = some (.int .i64 B1) := by { rw [cellB hb15 _ _ (by first | (simp; done) | (simp; omega) | omega)]; all_goals (first | assumption | go_simp) }; have b215 : w15.cell? ⟨XB, 2, none⟩ = some (.int .i64 B2) := by { rw [cellB hb15 _ _ (by first | (simp; done) | (simp; omega) | omega)]; all_goals (first | assumption | go_simp) }; have b315 : w15.cell? ⟨XB, 3, none⟩ = some (.int .i64 B3) := by { rw [cellB hb15 _ _ (by first | (simp; done) | (simp; omega) | omega)]; all_goals (first | assumption | go_simp) }; have lB15 : XB < w15.heap.size := by { omega }
  clear hz15 b014 b114 b214 b314 lB14
  have hz15 := hb15.size
  have a015 : w15.cell? ⟨XA, 0, none⟩ = some (.int .i64 A0) := by { rw [cellB hb15 _ _ (by first | (simp; done) | (simp; omega) | omega)]; all_goals (first | assumption | go_simp) }; have a115 : w15.cell? ⟨XA, 1, none⟩ = some (.int .i64 A1) := by { rw [cellB hb15 _ _ (by first | (simp; done) | (simp; omega) | omega)]; all_goals (first | assumption | go_simp) }; have a215 : w15.cell? ⟨XA, 2, none⟩ = some (.int .i64 A2) := by { rw [cellB hb15 _ _ (by first | (simp; done) | (simp; omega) | omega)]; all_goals (first | assumption | go_simp) }; have a315 : w15.cell? ⟨XA, 3, none⟩ = some (.int .i64 A3) := by { rw [cellB hb15 _ _ (by first | (simp; done) | (simp; omega) | omega)]; all_goals (first | assumption | go_simp) }; have lA15 : XA < w15.heap.size := by { omega }
  clear hz15 a014 a114 a214 a314 lA14
  have hz15 := hb15.size
  have q015 : w15.cell? ⟨w.heap.size, 0, none⟩ = some (.slice a n c) := by { rw [cellB hb15 _ _ (by first | (simp; done) | (simp; omega) | omega)]; all_goals (first | assumption | go_simp) }; have q115 : w15.cell? ⟨w.heap.size, 1, none⟩ = some (.slice a1 n1 c1) := by { rw [cellB hb15 _ _ (by first | (simp; done) | (simp; omega) | omega)]; all_goals (first | assumption | go_simp) }; have q215 : w15.cell? ⟨w.heap.size, 2, none⟩ = some (.bool g) := by { rw [cellB hb15 _ _ (by first | (simp; done) | (simp; omega) | omega)]; all_goals (first | assumption | go_simp) }; have l15 : w.heap.size < w15.heap.size := by { omega }
  have HB15 := Lib.hid (HB14.out.trans (hb15.mono HB14.out.size))
  clear hb15 hz15 q014 q114 q214 l14
  clear HX
  go_wp2_with fail
  refine (HWN.out _).mono ?_
  rintro e29 w29 ⟨rfl, rfl⟩
  cases bN
  · obtain ⟨rfl, rfl, rfl, rfl, rfl⟩ := HBN.out rfl
    go_wp2_with fail
    refine (HWG.out _).mono ?_
    rintro e30 w30 ⟨rfl, rfl⟩
    cases bG
    · obtain ⟨rfl, rfl, rfl, rfl, rfl⟩ := HBG.out rfl
      go_wp2
      go_ret
      exact ⟨rfl, HB15.out⟩
    · obtain ⟨v, hv, hc⟩ := HRG.out rfl
      have HV := Lib.hid hv
      have HC := Lib.hid hc
      clear hv hc
      go_wp2_with fail
      refine (HC.out _ HB15.out).mono ?_
      rintro e20 w20 ⟨rfl, hb20⟩
      have hz20 := hb20.size
      have b020 : w20.cell? ⟨XB, 0, none⟩ = some (.int .i64 B0) := by { rw [cellB hb20 _ _ (by first | (simp; done) | (simp; omega) | omega)]; all_goals (first | assumption | go_simp) }; have b120 : w20.cell? ⟨XB, 1, none⟩ = some (.int .i64 B1) := by { rw [cellB hb20 _ _ (by first | (simp; done) | (simp; omega) | omega)]; all_goals (first | assumption | go_simp) }; have b220 : w20.cell? ⟨XB, 2, none⟩ = some (.int .i64 B2) := by { rw [cellB hb20 _ _ (by first | (simp; done) | (simp; omega) | omega)]; all_goals (first | assumption | go_simp) }; have b320 : w20.cell? ⟨XB, 3, none⟩ = some (.int .i64 B3) := by { rw [cellB hb20 _ _ (by first | (simp; done) | (simp; omega) | omega)]; all_goals (first | assumption | go_simp) }; have lB20 : XB < w20.heap.size := by { omega }
      clear hz20 b015 b115 b215 b315 lB15
      have hz20 := hb20.size
      have q020 : w20.cell? ⟨w.heap.size, 0, none⟩ = some (.slice a n c) := by { rw [cellB hb20 _ _ (by first | (simp; done) | (simp; omega) | omega)]; all_goals (first | assumption | go_simp) }; have q120 : w20.cell? ⟨w.heap.size, 1, none⟩ = some (.slice a1 n1 c1) := by { rw [cellB hb20 _ _ (by first | (simp; done) | (simp; omega) | omega)]; all_goals (first | assumption | go_simp) }; have q220 : w20.cell? ⟨w.heap.size, 2, none⟩ = some (.bool g) := by { rw [cellB hb20 _ _ (by first | (simp; done) | (simp; omega) | omega)]; all_goals (first | assumption | go_simp) }; have l20 : w.heap.size < w20.heap.size := by { omega }
      have HB20 := Lib.hid (HB15.out.trans (hb20.mono HB15.out.size))
      clear hb20 hz20 q015 q115 q215 l15
      rcases HV.out with ⟨rfl, rfl, rfl, rfl, rfl, rfl⟩ | ⟨rfl, rfl⟩
      · go_wp2_with fail
        refine (spanOr_no _).mono ?_
        rintro e21 w21 ⟨rfl, hb21⟩
        go_wp2
        go_ret
        exact ⟨rfl, by have := HB20.out; (repeat' (first | (with_reducible exact Below.refl _ _) | (with_reducible assumption) | (with_reducible refine Below.drewN ?_ _) | (with_reducible refine Below.alloc ?_ ?_ _) | (with_reducible refine Below.drew ?_) | (with_reducible refine Below.setCell ?_ ?_ _) | (with_reducible refine Below.step (by assumption) ?_ ?_) | (with_reducible exact And.left (by assumption)) | go_size))⟩
      · go_wp2_with fail
        refine (spanOr_yes _ _ _ _ _).mono ?_
        rintro e21 w21 ⟨rfl, hb21⟩
        go_wp2
        go_ret
        exact ⟨rfl, by have := HB20.out; (repeat' (first | (with_reducible exact Below.refl _ _) | (with_reducible assumption) | (with_reducible refine Below.drewN ?_ _) | (with_reducible refine Below.alloc ?_ ?_ _) | (with_reducible refine Below.drew ?_) | (with_reducible refine Below.setCell ?_ ?_ _) | (with_reducible refine Below.step (by assumption) ?_ ?_) | (with_reducible exact And.left (by assumption)) | go_size))⟩
  · obtain ⟨v, hv, hc⟩ := HRN.out rfl
    have HV := Lib.hid hv
    have HC := Lib.hid hc
    clear hv hc
    go_wp2_with fail
    refine (HC.out _ HB15.out).mono ?_
    rintro e16 w16 ⟨rfl, hb16⟩
    have hz16 := hb16.size
    have b016 : w16.cell? ⟨XB, 0, none⟩ = some (.int .i64 B0) := by { rw [cellB hb16 _ _ (by first | (simp; done) | (simp; omega) | omega)]; all_goals (first | assumption | go_simp) }; have b116 : w16.cell? ⟨XB, 1, none⟩ = some (.int .i64 B1) := by { rw [cellB hb16 _ _ (by first | (simp; done) | (simp; omega) | omega)]; all_goals (first | assumption | go_simp) }; have b216 : w16.cell? ⟨XB, 2, none⟩ = some (.int .i64 B2) := by { rw [cellB hb16 _ _ (by first | (simp; done) | (simp; omega) | omega)]; all_goals (first | assumption | go_simp) }; have b316 : w16.cell? ⟨XB, 3, none⟩ = some (.int .i64 B3) := by { rw [cellB hb16 _ _ (by first | (simp; done) | (simp; omega) | omega)]; all_goals (first | assumption | go_simp) }; have lB16 : XB < w16.heap.size := by { omega }
    clear hz16 b015 b115 b215 b315 lB15
    have hz16 := hb16.size
    have a016 : w16.cell? ⟨XA, 0, none⟩ = some (.int .i64 A0) := by { rw [cellB hb16 _ _ (by first | (simp; done) | (simp; omega) | omega)]; all_goals (first | assumption | go_simp) }; have a116 : w16.cell? ⟨XA, 1, none⟩ = some (.int .i64 A1) := by { rw [cellB hb16 _ _ (by first | (simp; done) | (simp; omega) | omega)]; all_goals (first | assumption | go_simp) }; have a216 : w16.cell? ⟨XA, 2, none⟩ = some (.int .i64 A2) := by { rw [cellB hb16 _ _ (by first | (simp; done) | (simp; omega) | omega)]; all_goals (first | assumption | go_simp) }; have a316 : w16.cell? ⟨XA, 3, none⟩ = some (.int .i64 A3) := by { rw [cellB hb16 _ _ (by first | (simp; done) | (simp; omega) | omega)]; all_goals (first | assumption | go_simp) }; have lA16 : XA < w16.heap.size := by { omega }
    clear hz16 a015 a115 a215 a315 lA15
    have hz16 := hb16.size
    have q016 : w16.cell? ⟨w.heap.size, 0, none⟩ = some (.slice a n c) := by { rw [cellB hb16 _ _ (by first | (simp; done) | (simp; omega) | omega)]; all_goals (first | assumption | go_simp) }; have q116 : w16.cell? ⟨w.heap.size, 1, none⟩ = some (.slice a1 n1 c1) := by { rw [cellB hb16 _ _ (by first | (simp; done) | (simp; omega) | omega)]; all_goals (first | assumption | go_simp) }; have q216 : w16.cell? ⟨w.heap.size, 2, none⟩ = some (.bool g) := by { rw [cellB hb16 _ _ (by first | (simp; done) | (simp; omega) | omega)]; all_goals (first | assumption | go_simp) }; have l16 : w.heap.size < w16.heap.size := by { omega }
    have HB16 := Lib.hid (HB15.out.trans (hb16.mono HB15.out.size))
    clear hb16 hz16 q015 q115 q215 l15
    rcases HV.out with ⟨h1, h2, h3, h4, h5, rfl⟩ | ⟨h1, rfl⟩
    · have HH := Lib.hid (And.intro h1 (And.intro h2 (And.intro h3 (And.intro h4 h5))))
      clear h1 h2 h3 h4 h5
      go_upto_region 16 with fail
      generalize hW : World.alloc _ _ = w17 at *
      have hb17 : Below w16.heap.size w16 w17 := by rw [← hW]; (repeat' (first | (with_reducible exact Below.refl _ _) | (with_reducible assumption) | (with_reducible refine Below.drewN ?_ _) | (with_reducible refine Below.alloc ?_ ?_ _) | (with_reducible refine Below.drew ?_) | (with_reducible refine Below.setCell ?_ ?_ _) | (with_reducible refine Below.step (by assumption) ?_ ?_) | (with_reducible exact And.left (by assumption)) | go_size))
      have y0 : w17.cell? ⟨w16.heap.size, 0, none⟩ = some (.int .i64 0) := by { rw [← hW]; clear hW; go_simp }
      have y1 : w17.cell? ⟨w16.heap.size, 1, none⟩ = some (.int .i64 0) := by { rw [← hW]; clear hW; go_simp }
      have y2 : w17.cell? ⟨w16.heap.size, 2, none⟩ = some (.int .i64 0) := by { rw [← hW]; clear hW; go_simp }
      have y3 : w17.cell? ⟨w16.heap.size, 3, none⟩ = some (.int .i64 0) := by { rw [← hW]; clear hW; go_simp }
      clear hW
      have hz17 := hb17.size
      have b017 : w17.cell? ⟨XB, 0, none⟩ = some (.int .i64 B0) := by { rw [cellB hb17 _ _ (by first | (simp; done) | (simp; omega) | omega)]; all_goals (first | assumption | go_simp) }; have b117 : w17.cell? ⟨XB, 1, none⟩ = some (.int .i64 B1) := by { rw [cellB hb17 _ _ (by first | (simp; done) | (simp; omega) | omega)]; all_goals (first | assumption | go_simp) }; have b217 : w17.cell? ⟨XB, 2, none⟩ = some (.int .i64 B2) := by { rw [cellB hb17 _ _ (by first | (simp; done) | (simp; omega) | omega)]; all_goals (first | assumption | go_simp) }; have b317 : w17.cell? ⟨XB, 3, none⟩ = some (.int .i64 B3) := by { rw [cellB hb17 _ _ (by first | (simp; done) | (simp; omega) | omega)]; all_goals (first | assumption | go_simp) }; have lB17 : XB < w17.heap.size := by { omega }
      clear hz17 b016 b116 b216 b316 lB16
      have hz17 := hb17.size
      have a017 : w17.cell? ⟨XA, 0, none⟩ = some (.int .i64 A0) := by { rw [cellB hb17 _ _ (by first | (simp; done) | (simp; omega) | omega)]; all_goals (first | assumption | go_simp) }; have a117 : w17.cell? ⟨XA, 1, none⟩ = some (.int .i64 A1) := by { rw [cellB hb17 _ _ (by first | (simp; done) | (simp; omega) | omega)]; all_goals (first | assumption | go_simp) }; have a217 : w17.cell? ⟨XA, 2, none⟩ = some (.int .i64 A2) := by { rw [cellB hb17 _ _ (by first | (simp; done) | (simp; omega) | omega)]; all_goals (first | assumption | go_simp) }; have a317 : w17.cell? ⟨XA, 3, none⟩ = some (.int .i64 A3) := by { rw [cellB hb17 _ _ (by first | (simp; done) | (simp; omega) | omega)]; all_goals (first | assumption | go_simp) }; have lA17 : XA < w17.heap.size := by { omega }
      clear hz17 a016 a116 a216 a316 lA16
      have hz17 := hb17.size
      have q017 : w17.cell? ⟨w.heap.size, 0, none⟩ = some (.slice a n c) := by { rw [cellB hb17 _ _ (by first | (simp; done) | (simp; omega) | omega)]; all_goals (first | assumption | go_simp) }; have q117 : w17.cell? ⟨w.heap.size, 1, none⟩ = some (.slice a1 n1 c1) := by { rw [cellB hb17 _ _ (by first | (simp; done) | (simp; omega) | omega)]; all_goals (first | assumption | go_simp) }; have q217 : w17.cell? ⟨w.heap.size, 2, none⟩ = some (.bool g) := by { rw [cellB hb17 _ _ (by first | (simp; done) | (simp; omega) | omega)]; all_goals (first | assumption | go_simp) }; have l17 : w.heap.size < w17.heap.size := by { omega }
      have HB17 := Lib.hid (HB16.out.trans (hb17.mono HB16.out.size))
      clear hb17 hz17 q016 q116 q216 l16
      go_wp2_with fail
      obtain ⟨rfl, rfl, rfl, rfl, rfl⟩ := HH.out
      refine (spanOr_no _).mono ?_
      rintro e18 w18 ⟨rfl, hb18⟩
      have hz18 := hb18.size
      have b018 : w18.cell? ⟨XB, 0, none⟩ = some (.int .i64 B0) := by { rw [cellB hb18 _ _ (by first | (simp; done) | (simp; omega) | omega)]; all_goals (first | assumption | go_simp) }; have b118 : w18.cell? ⟨XB, 1, none⟩ = some (.int .i64 B1) := by { rw [cellB hb18 _ _ (by first | (simp; done) | (simp; omega) | omega)]; all_goals (first | assumption | go_simp) }; have b218 : w18.cell? ⟨XB, 2, none⟩ = some (.int .i64 B2) := by { rw [cellB hb18 _ _ (by first | (simp; done) | (simp; omega) | omega)]; all_goals (first | assumption | go_simp) }; have b318 : w18.cell? ⟨XB, 3, none⟩ = some (.int .i64 B3) := by { rw [cellB hb18 _ _ (by first | (simp; done) | (simp; omega) | omega)]; all_goals (first | assumption | go_simp) }; have lB18 : XB < w18.heap.size := by { omega }
      clear hz18 b017 b117 b217 b317 lB17
      have hz18 := hb18.size
      have q018 : w18.cell? ⟨w.heap.size, 0, none⟩ = some (.slice a n c) := by { rw [cellB hb18 _ _ (by first | (simp; done) | (simp; omega) | omega)]; all_goals (first | assumption | go_simp) }; have q118 : w18.cell? ⟨w.heap.size, 1, none⟩ = some (.slice a1 n1 c1) := by { rw [cellB hb18 _ _ (by first | (simp; done) | (simp; omega) | omega)]; all_goals (first | assumption | go_simp) }; have q218 : w18.cell? ⟨w.heap.size, 2, none⟩ = some (.bool g) := by { rw [cellB hb18 _ _ (by first | (simp; done) | (simp; omega) | omega)]; all_goals (first | assumption | go_simp) }; have l18 : w.heap.size < w18.heap.size := by { omega }
      have HB18 := Lib.hid (HB17.out.trans (hb18.mono HB17.out.size))
      clear hb18 hz18 q017 q117 q217 l17
      go_wp2_with fail
      refine (HWG.out _).mono ?_
      rintro e30 w30 ⟨rfl, rfl⟩
      cases bG
      · obtain ⟨rfl, rfl, rfl, rfl, rfl⟩ := HBG.out rfl
        go_wp2
        go_ret
        exact ⟨rfl, HB18.out⟩
      · obtain ⟨v, hv, hc⟩ := HRG.out rfl
        have HV := Lib.hid hv
        have HC := Lib.hid hc
        clear hv hc
        go_wp2_with fail
        refine (HC.out _ HB18.out).mono ?_
        rintro e20 w20 ⟨rfl, hb20⟩
        have hz20 := hb20.size
        have b020 : w20.cell? ⟨XB, 0, none⟩ = some (.int .i64 B0) := by { rw [cellB hb20 _ _ (by first | (simp; done) | (simp; omega) | omega)]; all_goals (first | assumption | go_simp) }; have b120 : w20.cell? ⟨XB, 1, none⟩ = some (.int .i64 B1) := by { rw [cellB hb20 _ _ (by first | (simp; done) | (simp; omega) | omega)]; all_goals (first | assumption | go_simp) }; have b220 : w20.cell? ⟨XB, 2, none⟩ = some (.int .i64 B2) := by { rw [cellB hb20 _ _ (by first | (simp; done) | (simp; omega) | omega)]; all_goals (first | assumption | go_simp) }; have b320 : w20.cell? ⟨XB, 3, none⟩ = some (.int .i64 B3) := by { rw [cellB hb20 _ _ (by first | (simp; done) | (simp; omega) | omega)]; all_goals (first | assumption | go_simp) }; have lB20 : XB < w20.heap.size := by { omega }
        clear hz20 b018 b118 b218 b318 lB18
        have hz20 := hb20.size
        have q020 : w20.cell? ⟨w.heap.size, 0, none⟩ = some (.slice a n c) := by { rw [cellB hb20 _ _ (by first | (simp; done) | (simp; omega) | omega)]; all_goals (first | assumption | go_simp) }; have q120 : w20.cell? ⟨w.heap.size, 1, none⟩ = some (.slice a1 n1 c1) := by { rw [cellB hb20 _ _ (by first | (simp; done) | (simp; omega) | omega)]; all_goals (first | assumption | go_simp) }; have q220 : w20.cell? ⟨w.heap.size, 2, none⟩ = some (.bool g) := by { rw [cellB hb20 _ _ (by first | (simp; done) | (simp; omega) | omega)]; all_goals (first | assumption | go_simp) }; have l20 : w.heap.size < w20.heap.size := by { omega }
        have HB20 := Lib.hid (HB18.out.trans (hb20.mono HB18.out.size))
        clear hb20 hz20 q018 q118 q218 l18
        rcases HV.out with ⟨rfl, rfl, rfl, rfl, rfl, rfl⟩ | ⟨rfl, rfl⟩
        · go_wp2_with fail
          refine (spanOr_no _).mono ?_
          rintro e21 w21 ⟨rfl, hb21⟩
          go_wp2
          go_ret
          exact ⟨rfl, by have := HB20.out; (repeat' (first | (with_reducible exact Below.refl _ _) | (with_reducible assumption) | (with_reducible refine Below.drewN ?_ _) | (with_reducible refine Below.alloc ?_ ?_ _) | (with_reducible refine Below.drew ?_) | (with_reducible refine Below.setCell ?_ ?_ _) | (with_reducible refine Below.step (by assumption) ?_ ?_) | (with_reducible exact And.left (by assumption)) | go_size))⟩
        · go_wp2_with fail
          refine (spanOr_yes _ _ _ _ _).mono ?_
          rintro e21 w21 ⟨rfl, hb21⟩
          go_wp2
          go_ret
          exact ⟨rfl, by have := HB20.out; (repeat' (first | (with_reducible exact Below.refl _ _) | (with_reducible assumption) | (with_reducible refine Below.drewN ?_ _) | (with_reducible refine Below.alloc ?_ ?_ _) | (with_reducible refine Below.drew ?_) | (with_reducible refine Below.setCell ?_ ?_ _) | (with_reducible refine Below.step (by assumption) ?_ ?_) | (with_reducible exact And.left (by assumption)) | go_size))⟩
    · have HH := Lib.hid h1
      clear h1
      go_upto_region 16 with fail
      generalize hW : World.alloc _ _ = w17 at *
      have hb17 : Below w16.heap.size w16 w17 := by rw [← hW]; (repeat' (first | (with_reducible exact Below.refl _ _) | (with_reducible assumption) | (with_reducible refine Below.drewN ?_ _) | (with_reducible refine Below.alloc ?_ ?_ _) | (with_reducible refine Below.drew ?_) | (with_reducible refine Below.setCell ?_ ?_ _) | (with_reducible refine Below.step (by assumption) ?_ ?_) | (with_reducible exact And.left (by assumption)) | go_size))
      have y0 : w17.cell? ⟨w16.heap.size, 0, none⟩ = some (.int .i64 A0) := by { rw [← hW]; clear hW; go_simp }
      have y1 : w17.cell? ⟨w16.heap.size, 1, none⟩ = some (.int .i64 A1) := by { rw [← hW]; clear hW; go_simp }
      have y2 : w17.cell? ⟨w16.heap.size, 2, none⟩ = some (.int .i64 A2) := by { rw [← hW]; clear hW; go_simp }
      have y3 : w17.cell? ⟨w16.heap.size, 3, none⟩ = some (.int .i64 A3) := by { rw [← hW]; clear hW; go_simp }
      clear hW
      have hz17 := hb17.size
      have b017 : w17.cell? ⟨XB, 0, none⟩ = some (.int .i64 B0) := by { rw [cellB hb17 _ _ (by first | (simp; done) | (simp; omega) | omega)]; all_goals (first | assumption | go_simp) }; have b117 : w17.cell? ⟨XB, 1, none⟩ = some (.int .i64 B1) := by { rw [cellB hb17 _ _ (by first | (simp; done) | (simp; omega) | omega)]; all_goals (first | assumption | go_simp) }; have b217 : w17.cell? ⟨XB, 2, none⟩ = some (.int .i64 B2) := by { rw [cellB hb17 _ _ (by first | (simp; done) | (simp; omega) | omega)]; all_goals (first | assumption | go_simp) }; have b317 : w17.cell? ⟨XB, 3, none⟩ = some (.int .i64 B3) := by { rw [cellB hb17 _ _ (by first | (simp; done) | (simp; omega) | omega)]; all_goals (first | assumption | go_simp) }; have lB17 : XB < w17.heap.size := by { omega }
      clear hz17 b016 b116 b216 b316 lB16
      have hz17 := hb17.size
      have a017 : w17.cell? ⟨XA, 0, none⟩ = some (.int .i64 A0) := by { rw [cellB hb17 _ _ (by first | (simp; done) | (simp; omega) | omega)]; all_goals (first | assumption | go_simp) }; have a117 : w17.cell? ⟨XA, 1, none⟩ = some (.int .i64 A1) := by { rw [cellB hb17 _ _ (by first | (simp; done) | (simp; omega) | omega)]; all_goals (first | assumption | go_simp) }; have a217 : w17.cell? ⟨XA, 2, none⟩ = some (.int .i64 A2) := by { rw [cellB hb17 _ _ (by first | (simp; done) | (simp; omega) | omega)]; all_goals (first | assumption | go_simp) }; have a317 : w17.cell? ⟨XA, 3, none⟩ = some (.int .i64 A3) := by { rw [cellB hb17 _ _ (by first | (simp; done) | (simp; omega) | omega)]; all_goals (first | assumption | go_simp) }; have lA17 : XA < w17.heap.size := by { omega }
      clear hz17 a016 a116 a216 a316 lA16
      have hz17 := hb17.size
      have q017 : w17.cell? ⟨w.heap.size, 0, none⟩ = some (.slice a n c) := by { rw [cellB hb17 _ _ (by first | (simp; done) | (simp; omega) | omega)]; all_goals (first | assumption | go_simp) }; have q117 : w17.cell? ⟨w.heap.size, 1, none⟩ = some (.slice a1 n1 c1) := by { rw [cellB hb17 _ _ (by first | (simp; done) | (simp; omega) | omega)]; all_goals (first | assumption | go_simp) }; have q217 : w17.cell? ⟨w.heap.size, 2, none⟩ = some (.bool g) := by { rw [cellB hb17 _ _ (by first | (simp; done) | (simp; omega) | omega)]; all_goals (first | assumption | go_simp) }; have l17 : w.heap.size < w17.heap.size := by { omega }
      have HB17 := Lib.hid (HB16.out.trans (hb17.mono HB16.out.size))
      clear hb17 hz17 q016 q116 q216 l16
      go_wp2_with fail
      obtain rfl := HH.out
      refine (spanOr_yes _ _ _ _ _).mono ?_
      rintro e18 w18 ⟨rfl, hb18⟩
      have hz18 := hb18.size
      have b018 : w18.cell? ⟨XB, 0, none⟩ = some (.int .i64 B0) := by { rw [cellB hb18 _ _ (by first | (simp; done) | (simp; omega) | omega)]; all_goals (first | assumption | go_simp) }; have b118 : w18.cell? ⟨XB, 1, none⟩ = some (.int .i64 B1) := by { rw [cellB hb18 _ _ (by first | (simp; done) | (simp; omega) | omega)]; all_goals (first | assumption | go_simp) }; have b218 : w18.cell? ⟨XB, 2, none⟩ = some (.int .i64 B2) := by { rw [cellB hb18 _ _ (by first | (simp; done) | (simp; omega) | omega)]; all_goals (first | assumption | go_simp) }; have b318 : w18.cell? ⟨XB, 3, none⟩ = some (.int .i64 B3) := by { rw [cellB hb18 _ _ (by first | (simp; done) | (simp; omega) | omega)]; all_goals (first | assumption | go_simp) }; have lB18 : XB < w18.heap.size := by { omega }
      clear hz18 b017 b117 b217 b317 lB17
      have hz18 := hb18.size
      have q018 : w18.cell? ⟨w.heap.size, 0, none⟩ = some (.slice a n c) := by { rw [cellB hb18 _ _ (by first | (simp; done) | (simp; omega) | omega)]; all_goals (first | assumption | go_simp) }; have q118 : w18.cell? ⟨w.heap.size, 1, none⟩ = some (.slice a1 n1 c1) := by { rw [cellB hb18 _ _ (by first | (simp; done) | (simp; omega) | omega)]; all_goals (first | assumption | go_simp) }; have q218 : w18.cell? ⟨w.heap.size, 2, none⟩ = some (.bool g) := by { rw [cellB hb18 _ _ (by first | (simp; done) | (simp; omega) | omega)]; all_goals (first | assumption | go_simp) }; have l18 : w.heap.size < w18.heap.size := by { omega }
      have HB18 := Lib.hid (HB17.out.trans (hb18.mono HB17.out.size))
      clear hb18 hz18 q017 q117 q217 l17
      go_wp2_with fail
      refine (HWG.out _).mono ?_
      rintro e30 w30 ⟨rfl, rfl⟩
      cases bG
      · obtain ⟨rfl, rfl, rfl, rfl, rfl⟩ := HBG.out rfl
        go_wp2
        go_ret
        exact ⟨rfl, HB18.out⟩
      · obtain ⟨v, hv, hc⟩ := HRG.out rfl
        have HV := Lib.hid hv
        have HC := Lib.hid hc
        clear hv hc
        go_wp2_with fail
        refine (HC.out _ HB18.out).mono ?_
        rintro e20 w20 ⟨rfl, hb20⟩
        have hz20 := hb20.size
        have b020 : w20.cell? ⟨XB, 0, none⟩ = some (.int .i64 B0) := by { rw [cellB hb20 _ _ (by first | (simp; done) | (simp; omega) | omega)]; all_goals (first | assumption | go_simp) }; have b120 : w20.cell? ⟨XB, 1, none⟩ = some (.int .i64 B1) := by { rw [cellB hb20 _ _ (by first | (simp; done) | (simp; omega) | omega)]; all_goals (first | assumption | go_simp) }; have b220 : w20.cell? ⟨XB, 2, none⟩ = some (.int .i64 B2) := by { rw [cellB hb20 _ _ (by first | (simp; done) | (simp; omega) | omega)]; all_goals (first | assumption | go_simp) }; have b320 : w20.cell? ⟨XB, 3, none⟩ = some (.int .i64 B3) := by { rw [cellB hb20 _ _ (by first | (simp; done) | (simp; omega) | omega)]; all_goals (first | assumption | go_simp) }; have lB20 : XB < w20.heap.size := by { omega }
        clear hz20 b018 b118 b218 b318 lB18
        have hz20 := hb20.size
        have q020 : w20.cell? ⟨w.heap.size, 0, none⟩ = some (.slice a n c) := by { rw [cellB hb20 _ _ (by first | (simp; done) | (simp; omega) | omega)]; all_goals (first | assumption | go_simp) }; have q120 : w20.cell? ⟨w.heap.size, 1, none⟩ = some (.slice a1 n1 c1) := by { rw [cellB hb20 _ _ (by first | (simp; done) | (simp; omega) | omega)]; all_goals (first | assumption | go_simp) }; have q220 : w20.cell? ⟨w.heap.size, 2, none⟩ = some (.bool g) := by { rw [cellB hb20 _ _ (by first | (simp; done) | (simp; omega) | omega)]; all_goals (first | assumption | go_simp) }; have l20 : w.heap.size < w20.heap.size := by { omega }
        have HB20 := Lib.hid (HB18.out.trans (hb20.mono HB18.out.size))
        clear hb20 hz20 q018 q118 q218 l18
        rcases HV.out with ⟨rfl, rfl, rfl, rfl, rfl, rfl⟩ | ⟨rfl, rfl⟩
        · go_wp2_with fail
          refine (spanOr_no _).mono ?_
          rintro e21 w21 ⟨rfl, hb21⟩
          go_wp2
          go_ret
          exact ⟨rfl, by have := HB20.out; (repeat' (first | (with_reducible exact Below.refl _ _) | (with_reducible assumption) | (with_reducible refine Below.drewN ?_ _) | (with_reducible refine Below.alloc ?_ ?_ _) | (with_reducible refine Below.drew ?_) | (with_reducible refine Below.setCell ?_ ?_ _) | (with_reducible refine Below.step (by assumption) ?_ ?_) | (with_reducible exact And.left (by assumption)) | go_size))⟩
        · go_wp2_with fail
          refine (spanOr_yes _ _ _ _ _).mono ?_
          rintro e21 w21 ⟨rfl, hb21⟩
          go_wp2
          go_ret
          exact ⟨rfl, by have := HB20.out; (repeat' (first | (with_reducible exact Below.refl _ _) | (with_reducible assumption) | (with_reducible refine Below.drewN ?_ _) | (with_reducible refine Below.alloc ?_ ?_ _) | (with_reducible refine Below.drew ?_) | (with_reducible refine Below.setCell ?_ ?_ _) | (with_reducible refine Below.step (by assumption) ?_ ?_) | (with_reducible exact And.left (by assumption)) | go_size))⟩
end Go.Proofs.Ytphgacledebolaa
