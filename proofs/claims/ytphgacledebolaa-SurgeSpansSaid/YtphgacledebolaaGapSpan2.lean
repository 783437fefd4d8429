import Derived.Laws.EntriesVeiled
import Derived.Test.YtphgacledebolaaGapSpan
/- The span of a gap: the exported function. -/
namespace Go.Proofs.Ytphgacledebolaa
open Go.RowKit
set_option linter.unusedVariables false

set_option maxRecDepth 100000 in
theorem gapSpan_bad (s e : List (Int × Int)) (a a1 : Option Addr) (n c n1 c1 : Nat) (g : Bool) (gap E : Int) (w : World) (hs : PairsR w a n s) (he : PairsR w a1 n1 e) (hE : gapErr s e gap = E) (h0 : E ≠ 0) (bg : -9223372036854775808 ≤ gap) (bg2 : gap ≤ 9223372036854775807) :
    Calls Try.prog 13 #[.agg #[.slice a n c, .slice a1 n1 c1, .bool g], .int .i64 gap] w fun e' w' => e' = .returned (.tuple #[.agg #[.int .i64 0, .int .i64 0, .int .i64 0, .int .i64 0], .int .i64 E]) ∧ Below w.heap.size w w' := by
  have HC := Lib.hid (fun (w' : World) (hb : Below w.heap.size w w') => checkRanges_any s e a a1 n c n1 c1 g w' (hs.below hb) (he.below hb))
  have hn := hs.small
  unfold gapErr at hE
  rw [hs.len] at hE
  clear hs he
  generalize rngErr s e = r at *
  obtain ⟨gb, hgb⟩ : ∃ b, b = wi gap 0 ((n : Int) - 1) := ⟨_, rfl⟩
  rw [← hgb] at hE
  have HG := Lib.hid hgb
  have HE := Lib.hid hE
  have h1 : (E != 0) = true := by simpa using h0
  clear hgb hE h0
  go_enter Try.func13, Try.ntmps13
  go_wp2_with fail
  generalize hW : ((w.alloc _).alloc _).alloc _ = w0
  have hb0 : Below w.heap.size w w0 := by rw [← hW]; (repeat' (first | (with_reducible exact Below.refl _ _) | (with_reducible assumption) | (with_reducible refine Below.drewN ?_ _) | (with_reducible refine Below.alloc ?_ ?_ _) | (with_reducible refine Below.drew ?_) | (with_reducible refine Below.setCell ?_ ?_ _) | (with_reducible refine Below.step (by assumption) ?_ ?_) | (with_reducible exact And.left (by assumption)) | go_size))
  have s0 : w0.cell? ⟨w.heap.size + 1 + 1, 0, none⟩ = some (.int .i64 0) := by { rw [← hW]; clear hW; go_simp }; have sf0 : w0.frozen? ⟨w.heap.size + 1 + 1, 0, none⟩ = false := by { rw [← hW]; clear hW; go_simp }; have s1 : w0.cell? ⟨w.heap.size + 1 + 1, 1, none⟩ = some (.int .i64 0) := by { rw [← hW]; clear hW; go_simp }; have sf1 : w0.frozen? ⟨w.heap.size + 1 + 1, 1, none⟩ = false := by { rw [← hW]; clear hW; go_simp }; have s2 : w0.cell? ⟨w.heap.size + 1 + 1, 2, none⟩ = some (.int .i64 0) := by { rw [← hW]; clear hW; go_simp }; have sf2 : w0.frozen? ⟨w.heap.size + 1 + 1, 2, none⟩ = false := by { rw [← hW]; clear hW; go_simp }; have s3 : w0.cell? ⟨w.heap.size + 1 + 1, 3, none⟩ = some (.int .i64 0) := by { rw [← hW]; clear hW; go_simp }; have sf3 : w0.frozen? ⟨w.heap.size + 1 + 1, 3, none⟩ = false := by { rw [← hW]; clear hW; go_simp }
  have sr0 : w0.cell? ⟨w.heap.size, 0, none⟩ = some (.slice a n c) := by { rw [← hW]; clear hW; go_simp }
  have sr1 : w0.cell? ⟨w.heap.size, 1, none⟩ = some (.slice a1 n1 c1) := by { rw [← hW]; clear hW; go_simp }
  have sr2 : w0.cell? ⟨w.heap.size, 2, none⟩ = some (.bool g) := by { rw [← hW]; clear hW; go_simp }
  have srg : w0.cell? ⟨w.heap.size + 1, 0, none⟩ = some (.int .i64 gap) := by { rw [← hW]; clear hW; go_simp }
  have hz0 : w0.heap.size = w.heap.size + 1 + 1 + 1 := by rw [← hW]; simp
  have HB0 := Lib.hid hb0
  clear hW hb0
  refine later_of_eq 7 (by kernel_rfl) (by kernel_rfl) ?_; simp only [List.take_succ_cons, List.take_zero, List.drop_succ_cons, List.drop_zero]; repeat go_big_quiet_step (exact calls_later (HC.out _ (HB0.out.trans (Below.mono (Later.below _) (by omega)))))
  refine wpQuiet_nil ?_; intro w5 hb5
  have hz5 := hb5.size
  have u0 : w5.cell? ⟨w.heap.size + 1 + 1, 0, none⟩ = some (.int .i64 0) := by { rw [cellB hb5 _ _ (by first | (simp; done) | (simp; omega) | omega)]; all_goals (first | assumption | go_simp) }; have u1 : w5.cell? ⟨w.heap.size + 1 + 1, 1, none⟩ = some (.int .i64 0) := by { rw [cellB hb5 _ _ (by first | (simp; done) | (simp; omega) | omega)]; all_goals (first | assumption | go_simp) }; have u2 : w5.cell? ⟨w.heap.size + 1 + 1, 2, none⟩ = some (.int .i64 0) := by { rw [cellB hb5 _ _ (by first | (simp; done) | (simp; omega) | omega)]; all_goals (first | assumption | go_simp) }; have u3 : w5.cell? ⟨w.heap.size + 1 + 1, 3, none⟩ = some (.int .i64 0) := by { rw [cellB hb5 _ _ (by first | (simp; done) | (simp; omega) | omega)]; all_goals (first | assumption | go_simp) }; have uf0 : w5.frozen? ⟨w.heap.size + 1 + 1, 0, none⟩ = false := by { rw [frozenB hb5 _ _ (by first | (simp; done) | (simp; omega) | omega)]; all_goals (first | assumption | go_simp) }; have uf1 : w5.frozen? ⟨w.heap.size + 1 + 1, 1, none⟩ = false := by { rw [frozenB hb5 _ _ (by first | (simp; done) | (simp; omega) | omega)]; all_goals (first | assumption | go_simp) }; have uf2 : w5.frozen? ⟨w.heap.size + 1 + 1, 2, none⟩ = false := by { rw [frozenB hb5 _ _ (by first | (simp; done) | (simp; omega) | omega)]; all_goals (first | assumption | go_simp) }; have uf3 : w5.frozen? ⟨w.heap.size + 1 + 1, 3, none⟩ = false := by { rw [frozenB hb5 _ _ (by first | (simp; done) | (simp; omega) | omega)]; all_goals (first | assumption | go_simp) }; have ur0 : w5.cell? ⟨w.heap.size, 0, none⟩ = some (.slice a n c) := by { rw [cellB hb5 _ _ (by first | (simp; done) | (simp; omega) | omega)]; all_goals (first | assumption | go_simp) }; have ur1 : w5.cell? ⟨w.heap.size, 1, none⟩ = some (.slice a1 n1 c1) := by { rw [cellB hb5 _ _ (by first | (simp; done) | (simp; omega) | omega)]; all_goals (first | assumption | go_simp) }; have ur2 : w5.cell? ⟨w.heap.size, 2, none⟩ = some (.bool g) := by { rw [cellB hb5 _ _ (by first | (simp; done) | (simp; omega) | omega)]; all_goals (first | assumption | go_simp) }; have urg : w5.cell? ⟨w.heap.size + 1, 0, none⟩ = some (.int .i64 gap) := by { rw [cellB hb5 _ _ (by first | (simp; done) | (simp; omega) | omega)]; all_goals (first | assumption | go_simp) }; have ul0 : w.heap.size < w5.heap.size := by { omega }; have ul1 : w.heap.size + 1 < w5.heap.size := by { omega }; have ul2 : w.heap.size + 1 + 1 < w5.heap.size := by { omega }
  have HB5 := Lib.hid (HB0.out.trans (hb5.mono (by omega)))
  clear hb5 HC s0 s1 s2 s3 sf0 sf1 sf2 sf3 sr0 sr1 sr2 srg HB0
  go_wp2_with fail
  refine (within_any _ _ _ _).mono ?_
  rintro e6 w6 ⟨rfl, rfl⟩
  rw [← HG.out]
  go_wp2_with fail
  refine (unless_any _ _ _).mono ?_
  rintro e6 w6 ⟨rfl, rfl⟩
  go_wp2_with fail
  refine (first2 _ _ _ _ _ _ (by rfl) (by simp)).mono ?_
  rintro e6 w6 ⟨rfl, rfl⟩
  rw [HE.out]
  generalize hW : w5.alloc _ = w6
  have hb6 : Below w5.heap.size w5 w6 := by rw [← hW]; (repeat' (first | (with_reducible exact Below.refl _ _) | (with_reducible assumption) | (with_reducible refine Below.drewN ?_ _) | (with_reducible refine Below.alloc ?_ ?_ _) | (with_reducible refine Below.drew ?_) | (with_reducible refine Below.setCell ?_ ?_ _) | (with_reducible refine Below.step (by assumption) ?_ ?_) | (with_reducible exact And.left (by assumption)) | go_size))
  have hz6 := hb6.size
  have v0 : w6.cell? ⟨w.heap.size + 1 + 1, 0, none⟩ = some (.int .i64 0) := by { rw [cellB hb6 _ _ (by first | (simp; done) | (simp; omega) | omega)]; all_goals (first | assumption | go_simp) }; have v1 : w6.cell? ⟨w.heap.size + 1 + 1, 1, none⟩ = some (.int .i64 0) := by { rw [cellB hb6 _ _ (by first | (simp; done) | (simp; omega) | omega)]; all_goals (first | assumption | go_simp) }; have v2 : w6.cell? ⟨w.heap.size + 1 + 1, 2, none⟩ = some (.int .i64 0) := by { rw [cellB hb6 _ _ (by first | (simp; done) | (simp; omega) | omega)]; all_goals (first | assumption | go_simp) }; have v3 : w6.cell? ⟨w.heap.size + 1 + 1, 3, none⟩ = some (.int .i64 0) := by { rw [cellB hb6 _ _ (by first | (simp; done) | (simp; omega) | omega)]; all_goals (first | assumption | go_simp) }; have vf0 : w6.frozen? ⟨w.heap.size + 1 + 1, 0, none⟩ = false := by { rw [frozenB hb6 _ _ (by first | (simp; done) | (simp; omega) | omega)]; all_goals (first | assumption | go_simp) }; have vf1 : w6.frozen? ⟨w.heap.size + 1 + 1, 1, none⟩ = false := by { rw [frozenB hb6 _ _ (by first | (simp; done) | (simp; omega) | omega)]; all_goals (first | assumption | go_simp) }; have vf2 : w6.frozen? ⟨w.heap.size + 1 + 1, 2, none⟩ = false := by { rw [frozenB hb6 _ _ (by first | (simp; done) | (simp; omega) | omega)]; all_goals (first | assumption | go_simp) }; have vf3 : w6.frozen? ⟨w.heap.size + 1 + 1, 3, none⟩ = false := by { rw [frozenB hb6 _ _ (by first | (simp; done) | (simp; omega) | omega)]; all_goals (first | assumption | go_simp) }; have vr0 : w6.cell? ⟨w.heap.size, 0, none⟩ = some (.slice a n c) := by { rw [cellB hb6 _ _ (by first | (simp; done) | (simp; omega) | omega)]; all_goals (first | assumption | go_simp) }; have vr1 : w6.cell? ⟨w.heap.size, 1, none⟩ = some (.slice a1 n1 c1) := by { rw [cellB hb6 _ _ (by first | (simp; done) | (simp; omega) | omega)]; all_goals (first | assumption | go_simp) }; have vr2 : w6.cell? ⟨w.heap.size, 2, none⟩ = some (.bool g) := by { rw [cellB hb6 _ _ (by first | (simp; done) | (simp; omega) | omega)]; all_goals (first | assumption | go_simp) }; have vrg : w6.cell? ⟨w.heap.size + 1, 0, none⟩ = some (.int .i64 gap) := by { rw [cellB hb6 _ _ (by first | (simp; done) | (simp; omega) | omega)]; all_goals (first | assumption | go_simp) }; have vl0 : w.heap.size < w6.heap.size := by { omega }; have vl1 : w.heap.size + 1 < w6.heap.size := by { omega }; have vl2 : w.heap.size + 1 + 1 < w6.heap.size := by { omega }
  have HB6 := Lib.hid (HB5.out.trans (hb6.mono HB5.out.size))
  clear hW hb6 u0 uf0 u1 uf1 u2 uf2 u3 uf3 ur0 ur1 ur2 urg ul0 ul1 ul2 HB5
  go_wp2
  refine bodyPost_ret (v := .tuple #[.agg #[.int .i64 0, .int .i64 0, .int .i64 0, .int .i64 0], .int .i64 E]) (by simp [results, Try.results13, go_sem, v0, v1, v2, v3]) rfl ⟨rfl, ?_⟩
  have := HB6.out
  (repeat' (first | (with_reducible exact Below.refl _ _) | (with_reducible assumption) | (with_reducible refine Below.drewN ?_ _) | (with_reducible refine Below.alloc ?_ ?_ _) | (with_reducible refine Below.drew ?_) | (with_reducible refine Below.setCell ?_ ?_ _) | (with_reducible refine Below.step (by assumption) ?_ ?_) | (with_reducible exact And.left (by assumption)) | go_size))

set_option maxHeartbeats 1000000 in
set_option maxRecDepth 100000 in
theorem gapSpan_ok (s e : List (Int × Int)) (a a1 : Option Addr) (n c n1 c1 L k : Nat) (g : Bool) (gap : Int) (hgap : gap = (k : Int)) (w : World) (hs : PairsR w a n s) (he : PairsR w a1 n1 e) (h0 : rngErr s e = 0) (hL : lastOf n g = L) (hk : k < n) :
    Calls Try.prog 13 #[.agg #[.slice a n c, .slice a1 n1 c1, .bool g], .int .i64 gap] w fun e' w' => e' = .returned (.tuple (if smallF (gapFr s e n L k false) && smallF (gapFr s e n L k true) then #[.agg #[.int .i64 (gapFr s e n L k false).1, .int .i64 (gapFr s e n L k false).2, .int .i64 (gapFr s e n L k true).1, .int .i64 (gapFr s e n L k true).2], .int .i64 0] else #[.agg #[.int .i64 0, .int .i64 0, .int .i64 0, .int .i64 0], .int .i64 8])) ∧ Below w.heap.size w w' := by
  have HC := Lib.hid (fun (w' : World) (hb : Below w.heap.size w w') => checkRanges_any s e a a1 n c n1 c1 g w' (hs.below hb) (he.below hb))
  rw [h0] at HC
  have hn := hs.small
  have HAT := Lib.hid (fun (high : Bool) (w' : World) (O A : Nat) (hb : Below w.heap.size w w') r0 r1 r2 ro ra rg l1 l2 l3 l4 => gs3_any s e a a1 n c n1 c1 L k w.heap.size O A (w.heap.size + 1) g high w' (hs.below hb) (he.below hb) h0 hL hk r0 r1 r2 ro ra rg l1 l2 l3 l4)
  clear hs he h0 hL
  obtain ⟨⟨p, q⟩, hf1⟩ : ∃ f, gapFr s e n L k false = f := ⟨_, rfl⟩
  obtain ⟨⟨p2, q2⟩, hf2⟩ : ∃ f, gapFr s e n L k true = f := ⟨_, rfl⟩
  have HAT1 := Lib.hid (HAT.out false)
  have HAT2 := Lib.hid (HAT.out true)
  rw [hf1] at HAT1 ⊢
  rw [hf2] at HAT2 ⊢
  clear hf1 hf2 HAT
  have HSP := Lib.hid (fun w' => span_any p q p2 q2 w')
  generalize (smallF (p, q) && smallF (p2, q2)) = S at *
  obtain ⟨gb, hgb⟩ : ∃ b, b = wi (k : Int) 0 ((n : Int) - 1) := ⟨_, rfl⟩
  obtain rfl : gb = true := by rw [hgb, wi_iff]; omega
  have HG := Lib.hid hgb
  have HE := Lib.hid (show firstErr [0, unl true 6] = 0 from rfl)
  rw [← hgap] at HG
  clear hgb
  rw [← hgap] at HAT1 HAT2
  have bg : 0 ≤ gap ∧ gap ≤ 9223372036854775807 := by omega
  clear hgap
  go_enter Try.func13, Try.ntmps13
  go_wp2_with fail
  generalize hW : ((w.alloc _).alloc _).alloc _ = w0
  have hb0 : Below w.heap.size w w0 := by rw [← hW]; (repeat' (first | (with_reducible exact Below.refl _ _) | (with_reducible assumption) | (with_reducible refine Below.drewN ?_ _) | (with_reducible refine Below.alloc ?_ ?_ _) | (with_reducible refine Below.drew ?_) | (with_reducible refine Below.setCell ?_ ?_ _) | (with_reducible refine Below.step (by assumption) ?_ ?_) | (with_reducible exact And.left (by assumption)) | go_size))
  have s0 : w0.cell? ⟨w.heap.size + 1 + 1, 0, none⟩ = some (.int .i64 0) := by { rw [← hW]; clear hW; go_simp }; have sf0 : w0.frozen? ⟨w.heap.size + 1 + 1, 0, none⟩ = false := by { rw [← hW]; clear hW; go_simp }; have s1 : w0.cell? ⟨w.heap.size + 1 + 1, 1, none⟩ = some (.int .i64 0) := by { rw [← hW]; clear hW; go_simp }; have sf1 : w0.frozen? ⟨w.heap.size + 1 + 1, 1, none⟩ = false := by { rw [← hW]; clear hW; go_simp }; have s2 : w0.cell? ⟨w.heap.size + 1 + 1, 2, none⟩ = some (.int .i64 0) := by { rw [← hW]; clear hW; go_simp }; have sf2 : w0.frozen? ⟨w.heap.size + 1 + 1, 2, none⟩ = false := by { rw [← hW]; clear hW; go_simp }; have s3 : w0.cell? ⟨w.heap.size + 1 + 1, 3, none⟩ = some (.int .i64 0) := by { rw [← hW]; clear hW; go_simp }; have sf3 : w0.frozen? ⟨w.heap.size + 1 + 1, 3, none⟩ = false := by { rw [← hW]; clear hW; go_simp }
  have sr0 : w0.cell? ⟨w.heap.size, 0, none⟩ = some (.slice a n c) := by { rw [← hW]; clear hW; go_simp }
  have sr1 : w0.cell? ⟨w.heap.size, 1, none⟩ = some (.slice a1 n1 c1) := by { rw [← hW]; clear hW; go_simp }
  have sr2 : w0.cell? ⟨w.heap.size, 2, none⟩ = some (.bool g) := by { rw [← hW]; clear hW; go_simp }
  have srg : w0.cell? ⟨w.heap.size + 1, 0, none⟩ = some (.int .i64 gap) := by { rw [← hW]; clear hW; go_simp }
  have hz0 : w0.heap.size = w.heap.size + 1 + 1 + 1 := by rw [← hW]; simp
  have HB0 := Lib.hid hb0
  clear hW hb0
  refine later_of_eq 7 (by kernel_rfl) (by kernel_rfl) ?_; simp only [List.take_succ_cons, List.take_zero, List.drop_succ_cons, List.drop_zero]; repeat go_big_quiet_step (exact calls_later (HC.out _ (HB0.out.trans (Below.mono (Later.below _) (by omega)))))
  refine wpQuiet_nil ?_; intro w5 hb5
  have hz5 := hb5.size
  have u0 : w5.cell? ⟨w.heap.size + 1 + 1, 0, none⟩ = some (.int .i64 0) := by { rw [cellB hb5 _ _ (by first | (simp; done) | (simp; omega) | omega)]; all_goals (first | assumption | go_simp) }; have u1 : w5.cell? ⟨w.heap.size + 1 + 1, 1, none⟩ = some (.int .i64 0) := by { rw [cellB hb5 _ _ (by first | (simp; done) | (simp; omega) | omega)]; all_goals (first | assumption | go_simp) }; have u2 : w5.cell? ⟨w.heap.size + 1 + 1, 2, none⟩ = some (.int .i64 0) := by { rw [cellB hb5 _ _ (by first | (simp; done) | (simp; omega) | omega)]; all_goals (first | assumption | go_simp) }; have u3 : w5.cell? ⟨w.heap.size + 1 + 1, 3, none⟩ = some (.int .i64 0) := by { rw [cellB hb5 _ _ (by first | (simp; done) | (simp; omega) | omega)]; all_goals (first | assumption | go_simp) }; have uf0 : w5.frozen? ⟨w.heap.size + 1 + 1, 0, none⟩ = false := by { rw [frozenB hb5 _ _ (by first | (simp; done) | (simp; omega) | omega)]; all_goals (first | assumption | go_simp) }; have uf1 : w5.frozen? ⟨w.heap.size + 1 + 1, 1, none⟩ = false := by { rw [frozenB hb5 _ _ (by first | (simp; done) | (simp; omega) | omega)]; all_goals (first | assumption | go_simp) }; have uf2 : w5.frozen? ⟨w.heap.size + 1 + 1, 2, none⟩ = false := by { rw [frozenB hb5 _ _ (by first | (simp; done) | (simp; omega) | omega)]; all_goals (first | assumption | go_simp) }; have uf3 : w5.frozen? ⟨w.heap.size + 1 + 1, 3, none⟩ = false := by { rw [frozenB hb5 _ _ (by first | (simp; done) | (simp; omega) | omega)]; all_goals (first | assumption | go_simp) }; have ur0 : w5.cell? ⟨w.heap.size, 0, none⟩ = some (.slice a n c) := by { rw [cellB hb5 _ _ (by first | (simp; done) | (simp; omega) | omega)]; all_goals (first | assumption | go_simp) }; have ur1 : w5.cell? ⟨w.heap.size, 1, none⟩ = some (.slice a1 n1 c1) := by { rw [cellB hb5 _ _ (by first | (simp; done) | (simp; omega) | omega)]; all_goals (first | assumption | go_simp) }; have ur2 : w5.cell? ⟨w.heap.size, 2, none⟩ = some (.bool g) := by { rw [cellB hb5 _ _ (by first | (simp; done) | (simp; omega) | omega)]; all_goals (first | assumption | go_simp) }; have urg : w5.cell? ⟨w.heap.size + 1, 0, none⟩ = some (.int .i64 gap) := by { rw [cellB hb5 _ _ (by first | (simp; done) | (simp; omega) | omega)]; all_goals (first | assumption | go_simp) }; have ul0 : w.heap.size < w5.heap.size := by { omega }; have ul1 : w.heap.size + 1 < w5.heap.size := by { omega }; have ul2 : w.heap.size + 1 + 1 < w5.heap.size := by { omega }
  have HB5 := Lib.hid (HB0.out.trans (hb5.mono (by omega)))
  clear hb5 HC s0 s1 s2 s3 sf0 sf1 sf2 sf3 sr0 sr1 sr2 srg HB0
  go_wp2_with fail
  refine (within_any _ _ _ _).mono ?_
  rintro e6 w6 ⟨rfl, rfl⟩
  rw [← HG.out]
  go_wp2_with fail
  refine (unless_any _ _ _).mono ?_
  rintro e6 w6 ⟨rfl, rfl⟩
  go_wp2_with fail
  refine (first2 _ _ _ _ _ _ (by rfl) (by simp)).mono ?_
  rintro e6 w6 ⟨rfl, rfl⟩
  rw [HE.out]
  generalize hW : w5.alloc _ = w6
  have hb6 : Below w5.heap.size w5 w6 := by rw [← hW]; (repeat' (first | (with_reducible exact Below.refl _ _) | (with_reducible assumption) | (with_reducible refine Below.drewN ?_ _) | (with_reducible refine Below.alloc ?_ ?_ _) | (with_reducible refine Below.drew ?_) | (with_reducible refine Below.setCell ?_ ?_ _) | (with_reducible refine Below.step (by assumption) ?_ ?_) | (with_reducible exact And.left (by assumption)) | go_size))
  have hz6 := hb6.size
  have v0 : w6.cell? ⟨w.heap.size + 1 + 1, 0, none⟩ = some (.int .i64 0) := by { rw [cellB hb6 _ _ (by first | (simp; done) | (simp; omega) | omega)]; all_goals (first | assumption | go_simp) }; have v1 : w6.cell? ⟨w.heap.size + 1 + 1, 1, none⟩ = some (.int .i64 0) := by { rw [cellB hb6 _ _ (by first | (simp; done) | (simp; omega) | omega)]; all_goals (first | assumption | go_simp) }; have v2 : w6.cell? ⟨w.heap.size + 1 + 1, 2, none⟩ = some (.int .i64 0) := by { rw [cellB hb6 _ _ (by first | (simp; done) | (simp; omega) | omega)]; all_goals (first | assumption | go_simp) }; have v3 : w6.cell? ⟨w.heap.size + 1 + 1, 3, none⟩ = some (.int .i64 0) := by { rw [cellB hb6 _ _ (by first | (simp; done) | (simp; omega) | omega)]; all_goals (first | assumption | go_simp) }; have vf0 : w6.frozen? ⟨w.heap.size + 1 + 1, 0, none⟩ = false := by { rw [frozenB hb6 _ _ (by first | (simp; done) | (simp; omega) | omega)]; all_goals (first | assumption | go_simp) }; have vf1 : w6.frozen? ⟨w.heap.size + 1 + 1, 1, none⟩ = false := by { rw [frozenB hb6 _ _ (by first | (simp; done) | (simp; omega) | omega)]; all_goals (first | assumption | go_simp) }; have vf2 : w6.frozen? ⟨w.heap.size + 1 + 1, 2, none⟩ = false := by { rw [frozenB hb6 _ _ (by first | (simp; done) | (simp; omega) | omega)]; all_goals (first | assumption | go_simp) }; have vf3 : w6.frozen? ⟨w.heap.size + 1 + 1, 3, none⟩ = false := by { rw [frozenB hb6 _ _ (by first | (simp; done) | (simp; omega) | omega)]; all_goals (first | assumption | go_simp) }; have vr0 : w6.cell? ⟨w.heap.size, 0, none⟩ = some (.slice a n c) := by { rw [cellB hb6 _ _ (by first | (simp; done) | (simp; omega) | omega)]; all_goals (first | assumption | go_simp) }; have vr1 : w6.cell? ⟨w.heap.size, 1, none⟩ = some (.slice a1 n1 c1) := by { rw [cellB hb6 _ _ (by first | (simp; done) | (simp; omega) | omega)]; all_goals (first | assumption | go_simp) }; have vr2 : w6.cell? ⟨w.heap.size, 2, none⟩ = some (.bool g) := by { rw [cellB hb6 _ _ (by first | (simp; done) | (simp; omega) | omega)]; all_goals (first | assumption | go_simp) }; have vrg : w6.cell? ⟨w.heap.size + 1, 0, none⟩ = some (.int .i64 gap) := by { rw [cellB hb6 _ _ (by first | (simp; done) | (simp; omega) | omega)]; all_goals (first | assumption | go_simp) }; have vl0 : w.heap.size < w6.heap.size := by { omega }; have vl1 : w.heap.size + 1 < w6.heap.size := by { omega }; have vl2 : w.heap.size + 1 + 1 < w6.heap.size := by { omega }
  have HB6 := Lib.hid (HB5.out.trans (hb6.mono HB5.out.size))
  clear hW hb6 u0 uf0 u1 uf1 u2 uf2 u3 uf3 ur0 ur1 ur2 urg ul0 ul1 ul2 HB5
  go_wp2_with fail
  generalize hW : (w6.alloc _).alloc _ = w7
  have ro : w7.cell? ⟨w6.heap.size, 0, none⟩ = some (.func (.func 81) #[] #[.pointer (some ⟨w.heap.size + 1, 0, none⟩)]) := by { rw [← hW]; clear hW; go_simp }
  have ra : w7.cell? ⟨w6.heap.size + 1, 0, none⟩ = some (.func (.func 82) #[] #[.pointer (some ⟨w.heap.size + 1, 0, none⟩)]) := by { rw [← hW]; clear hW; go_simp }
  have lo : w6.heap.size < w7.heap.size := by { rw [← hW]; simp; omega }
  have la : w6.heap.size + 1 < w7.heap.size := by { rw [← hW]; simp }
  have hb7 : Below w6.heap.size w6 w7 := by rw [← hW]; (repeat' (first | (with_reducible exact Below.refl _ _) | (with_reducible assumption) | (with_reducible refine Below.drewN ?_ _) | (with_reducible refine Below.alloc ?_ ?_ _) | (with_reducible refine Below.drew ?_) | (with_reducible refine Below.setCell ?_ ?_ _) | (with_reducible refine Below.step (by assumption) ?_ ?_) | (with_reducible exact And.left (by assumption)) | go_size))
  have hz7 := hb7.size
  have u0 : w7.cell? ⟨w.heap.size + 1 + 1, 0, none⟩ = some (.int .i64 0) := by { rw [cellB hb7 _ _ (by first | (simp; done) | (simp; omega) | omega)]; all_goals (first | assumption | go_simp) }; have u1 : w7.cell? ⟨w.heap.size + 1 + 1, 1, none⟩ = some (.int .i64 0) := by { rw [cellB hb7 _ _ (by first | (simp; done) | (simp; omega) | omega)]; all_goals (first | assumption | go_simp) }; have u2 : w7.cell? ⟨w.heap.size + 1 + 1, 2, none⟩ = some (.int .i64 0) := by { rw [cellB hb7 _ _ (by first | (simp; done) | (simp; omega) | omega)]; all_goals (first | assumption | go_simp) }; have u3 : w7.cell? ⟨w.heap.size + 1 + 1, 3, none⟩ = some (.int .i64 0) := by { rw [cellB hb7 _ _ (by first | (simp; done) | (simp; omega) | omega)]; all_goals (first | assumption | go_simp) }; have uf0 : w7.frozen? ⟨w.heap.size + 1 + 1, 0, none⟩ = false := by { rw [frozenB hb7 _ _ (by first | (simp; done) | (simp; omega) | omega)]; all_goals (first | assumption | go_simp) }; have uf1 : w7.frozen? ⟨w.heap.size + 1 + 1, 1, none⟩ = false := by { rw [frozenB hb7 _ _ (by first | (simp; done) | (simp; omega) | omega)]; all_goals (first | assumption | go_simp) }; have uf2 : w7.frozen? ⟨w.heap.size + 1 + 1, 2, none⟩ = false := by { rw [frozenB hb7 _ _ (by first | (simp; done) | (simp; omega) | omega)]; all_goals (first | assumption | go_simp) }; have uf3 : w7.frozen? ⟨w.heap.size + 1 + 1, 3, none⟩ = false := by { rw [frozenB hb7 _ _ (by first | (simp; done) | (simp; omega) | omega)]; all_goals (first | assumption | go_simp) }; have ur0 : w7.cell? ⟨w.heap.size, 0, none⟩ = some (.slice a n c) := by { rw [cellB hb7 _ _ (by first | (simp; done) | (simp; omega) | omega)]; all_goals (first | assumption | go_simp) }; have ur1 : w7.cell? ⟨w.heap.size, 1, none⟩ = some (.slice a1 n1 c1) := by { rw [cellB hb7 _ _ (by first | (simp; done) | (simp; omega) | omega)]; all_goals (first | assumption | go_simp) }; have ur2 : w7.cell? ⟨w.heap.size, 2, none⟩ = some (.bool g) := by { rw [cellB hb7 _ _ (by first | (simp; done) | (simp; omega) | omega)]; all_goals (first | assumption | go_simp) }; have urg : w7.cell? ⟨w.heap.size + 1, 0, none⟩ = some (.int .i64 gap) := by { rw [cellB hb7 _ _ (by first | (simp; done) | (simp; omega) | omega)]; all_goals (first | assumption | go_simp) }; have ul0 : w.heap.size < w7.heap.size := by { omega }; have ul1 : w.heap.size + 1 < w7.heap.size := by { omega }; have ul2 : w.heap.size + 1 + 1 < w7.heap.size := by { omega }
  have HB7 := Lib.hid (HB6.out.trans (hb7.mono HB6.out.size))
  clear hW hb7 v0 vf0 v1 vf1 v2 vf2 v3 vf3 vr0 vr1 vr2 vrg vl0 vl1 vl2 HB6
  refine (HAT1.out _ _ _ HB7.out ur0 ur1 ur2 ro ra urg ul0 lo la ul1).mono ?_
  rintro e8 w8 ⟨rfl, hb8⟩
  have hz8 := hb8.size
  have v0 : w8.cell? ⟨w.heap.size + 1 + 1, 0, none⟩ = some (.int .i64 0) := by { rw [cellB hb8 _ _ (by first | (simp; done) | (simp; omega) | omega)]; all_goals (first | assumption | go_simp) }; have v1 : w8.cell? ⟨w.heap.size + 1 + 1, 1, none⟩ = some (.int .i64 0) := by { rw [cellB hb8 _ _ (by first | (simp; done) | (simp; omega) | omega)]; all_goals (first | assumption | go_simp) }; have v2 : w8.cell? ⟨w.heap.size + 1 + 1, 2, none⟩ = some (.int .i64 0) := by { rw [cellB hb8 _ _ (by first | (simp; done) | (simp; omega) | omega)]; all_goals (first | assumption | go_simp) }; have v3 : w8.cell? ⟨w.heap.size + 1 + 1, 3, none⟩ = some (.int .i64 0) := by { rw [cellB hb8 _ _ (by first | (simp; done) | (simp; omega) | omega)]; all_goals (first | assumption | go_simp) }; have vf0 : w8.frozen? ⟨w.heap.size + 1 + 1, 0, none⟩ = false := by { rw [frozenB hb8 _ _ (by first | (simp; done) | (simp; omega) | omega)]; all_goals (first | assumption | go_simp) }; have vf1 : w8.frozen? ⟨w.heap.size + 1 + 1, 1, none⟩ = false := by { rw [frozenB hb8 _ _ (by first | (simp; done) | (simp; omega) | omega)]; all_goals (first | assumption | go_simp) }; have vf2 : w8.frozen? ⟨w.heap.size + 1 + 1, 2, none⟩ = false := by { rw [frozenB hb8 _ _ (by first | (simp; done) | (simp; omega) | omega)]; all_goals (first | assumption | go_simp) }; have vf3 : w8.frozen? ⟨w.heap.size + 1 + 1, 3, none⟩ = false := by { rw [frozenB hb8 _ _ (by first | (simp; done) | (simp; omega) | omega)]; all_goals (first | assumption | go_simp) }; have vr0 : w8.cell? ⟨w.heap.size, 0, none⟩ = some (.slice a n c) := by { rw [cellB hb8 _ _ (by first | (simp; done) | (simp; omega) | omega)]; all_goals (first | assumption | go_simp) }; have vr1 : w8.cell? ⟨w.heap.size, 1, none⟩ = some (.slice a1 n1 c1) := by { rw [cellB hb8 _ _ (by first | (simp; done) | (simp; omega) | omega)]; all_goals (first | assumption | go_simp) }; have vr2 : w8.cell? ⟨w.heap.size, 2, none⟩ = some (.bool g) := by { rw [cellB hb8 _ _ (by first | (simp; done) | (simp; omega) | omega)]; all_goals (first | assumption | go_simp) }; have vrg : w8.cell? ⟨w.heap.size + 1, 0, none⟩ = some (.int .i64 gap) := by { rw [cellB hb8 _ _ (by first | (simp; done) | (simp; omega) | omega)]; all_goals (first | assumption | go_simp) }; have vl0 : w.heap.size < w8.heap.size := by { omega }; have vl1 : w.heap.size + 1 < w8.heap.size := by { omega }; have vl2 : w.heap.size + 1 + 1 < w8.heap.size := by { omega }
  have ro8 : w8.cell? ⟨w6.heap.size, 0, none⟩ = some (.func (.func 81) #[] #[.pointer (some ⟨w.heap.size + 1, 0, none⟩)]) := by rw [cellB hb8 _ _ lo]; exact ro
  have ra8 : w8.cell? ⟨w6.heap.size + 1, 0, none⟩ = some (.func (.func 82) #[] #[.pointer (some ⟨w.heap.size + 1, 0, none⟩)]) := by rw [cellB hb8 _ _ la]; exact ra
  have lo8 : w6.heap.size < w8.heap.size := by omega
  have la8 : w6.heap.size + 1 < w8.heap.size := by omega
  have HB8 := Lib.hid (HB7.out.trans (hb8.mono HB7.out.size))
  clear hb8 u0 uf0 u1 uf1 u2 uf2 u3 uf3 ur0 ur1 ur2 urg ul0 ul1 ul2 ro ra lo la HB7 HAT1
  go_wp2_with fail
  refine (HAT2.out _ _ _ HB8.out vr0 vr1 vr2 ro8 ra8 vrg vl0 lo8 la8 vl1).mono ?_
  rintro e9 w9 ⟨rfl, hb9⟩
  have hz9 := hb9.size
  have u0 : w9.cell? ⟨w.heap.size + 1 + 1, 0, none⟩ = some (.int .i64 0) := by { rw [cellB hb9 _ _ (by first | (simp; done) | (simp; omega) | omega)]; all_goals (first | assumption | go_simp) }; have u1 : w9.cell? ⟨w.heap.size + 1 + 1, 1, none⟩ = some (.int .i64 0) := by { rw [cellB hb9 _ _ (by first | (simp; done) | (simp; omega) | omega)]; all_goals (first | assumption | go_simp) }; have u2 : w9.cell? ⟨w.heap.size + 1 + 1, 2, none⟩ = some (.int .i64 0) := by { rw [cellB hb9 _ _ (by first | (simp; done) | (simp; omega) | omega)]; all_goals (first | assumption | go_simp) }; have u3 : w9.cell? ⟨w.heap.size + 1 + 1, 3, none⟩ = some (.int .i64 0) := by { rw [cellB hb9 _ _ (by first | (simp; done) | (simp; omega) | omega)]; all_goals (first | assumption | go_simp) }; have uf0 : w9.frozen? ⟨w.heap.size + 1 + 1, 0, none⟩ = false := by { rw [frozenB hb9 _ _ (by first | (simp; done) | (simp; omega) | omega)]; all_goals (first | assumption | go_simp) }; have uf1 : w9.frozen? ⟨w.heap.size + 1 + 1, 1, none⟩ = false := by { rw [frozenB hb9 _ _ (by first | (simp; done) | (simp; omega) | omega)]; all_goals (first | assumption | go_simp) }; have uf2 : w9.frozen? ⟨w.heap.size + 1 + 1, 2, none⟩ = false := by { rw [frozenB hb9 _ _ (by first | (simp; done) | (simp; omega) | omega)]; all_goals (first | assumption | go_simp) }; have uf3 : w9.frozen? ⟨w.heap.size + 1 + 1, 3, none⟩ = false := by { rw [frozenB hb9 _ _ (by first | (simp; done) | (simp; omega) | omega)]; all_goals (first | assumption | go_simp) }; have ul2 : w.heap.size + 1 + 1 < w9.heap.size := by { omega }
  have HB9 := Lib.hid (HB8.out.trans (hb9.mono HB8.out.size))
  clear hb9 v0 vf0 v1 vf1 v2 vf2 v3 vf3 vr0 vr1 vr2 vrg vl0 vl1 vl2 ro8 ra8 lo8 la8 HB8 HAT2
  go_wp2_with fail
  refine (HSP.out w9).mono ?_
  rintro e10 w10 ⟨rfl, hb10⟩
  have hz10 := hb10.size
  have v0 : w10.cell? ⟨w.heap.size + 1 + 1, 0, none⟩ = some (.int .i64 0) := by { rw [cellB hb10 _ _ (by first | (simp; done) | (simp; omega) | omega)]; all_goals (first | assumption | go_simp) }; have v1 : w10.cell? ⟨w.heap.size + 1 + 1, 1, none⟩ = some (.int .i64 0) := by { rw [cellB hb10 _ _ (by first | (simp; done) | (simp; omega) | omega)]; all_goals (first | assumption | go_simp) }; have v2 : w10.cell? ⟨w.heap.size + 1 + 1, 2, none⟩ = some (.int .i64 0) := by { rw [cellB hb10 _ _ (by first | (simp; done) | (simp; omega) | omega)]; all_goals (first | assumption | go_simp) }; have v3 : w10.cell? ⟨w.heap.size + 1 + 1, 3, none⟩ = some (.int .i64 0) := by { rw [cellB hb10 _ _ (by first | (simp; done) | (simp; omega) | omega)]; all_goals (first | assumption | go_simp) }; have vf0 : w10.frozen? ⟨w.heap.size + 1 + 1, 0, none⟩ = false := by { rw [frozenB hb10 _ _ (by first | (simp; done) | (simp; omega) | omega)]; all_goals (first | assumption | go_simp) }; have vf1 : w10.frozen? ⟨w.heap.size + 1 + 1, 1, none⟩ = false := by { rw [frozenB hb10 _ _ (by first | (simp; done) | (simp; omega) | omega)]; all_goals (first | assumption | go_simp) }; have vf2 : w10.frozen? ⟨w.heap.size + 1 + 1, 2, none⟩ = false := by { rw [frozenB hb10 _ _ (by first | (simp; done) | (simp; omega) | omega)]; all_goals (first | assumption | go_simp) }; have vf3 : w10.frozen? ⟨w.heap.size + 1 + 1, 3, none⟩ = false := by { rw [frozenB hb10 _ _ (by first | (simp; done) | (simp; omega) | omega)]; all_goals (first | assumption | go_simp) }; have vl2 : w.heap.size + 1 + 1 < w10.heap.size := by { omega }
  have HB10 := Lib.hid (HB9.out.trans (hb10.mono HB9.out.size))
  clear hb10 u0 uf0 u1 uf1 u2 uf2 u3 uf3 HB9
  cases S
  · go_wp2
    refine bodyPost_ret (v := .tuple #[.agg #[.int .i64 0, .int .i64 0, .int .i64 0, .int .i64 0], .int .i64 8]) (by simp [results, Try.results13, go_sem, v0, v1, v2, v3]) rfl ⟨rfl, ?_⟩
    have := HB10.out
    (repeat' (first | (with_reducible exact Below.refl _ _) | (with_reducible assumption) | (with_reducible refine Below.drewN ?_ _) | (with_reducible refine Below.alloc ?_ ?_ _) | (with_reducible refine Below.drew ?_) | (with_reducible refine Below.setCell ?_ ?_ _) | (with_reducible refine Below.step (by assumption) ?_ ?_) | (with_reducible exact And.left (by assumption)) | go_size))
  · go_wp2
    refine bodyPost_ret (v := .tuple #[.agg #[.int .i64 p, .int .i64 q, .int .i64 p2, .int .i64 q2], .int .i64 0]) (by simp [results, Try.results13, go_sem, v0, v1, v2, v3]) rfl ⟨rfl, ?_⟩
    have := HB10.out
    (repeat' (first | (with_reducible exact Below.refl _ _) | (with_reducible assumption) | (with_reducible refine Below.drewN ?_ _) | (with_reducible refine Below.alloc ?_ ?_ _) | (with_reducible refine Below.drew ?_) | (with_reducible refine Below.setCell ?_ ?_ _) | (with_reducible refine Below.step (by assumption) ?_ ?_) | (with_reducible exact And.left (by assumption)) | go_size))
end Go.Proofs.Ytphgacledebolaa
