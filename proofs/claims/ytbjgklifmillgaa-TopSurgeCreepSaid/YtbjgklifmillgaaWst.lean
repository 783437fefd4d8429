import Derived.Test.YtbjgklifmillgaaMFi
import Derived.Test.YtbjgklifmillgaaMSch
import Derived.Test.YtbjgklifmillgaaWstPlain
/- The worst gap and the envelope, of the program. -/
namespace Go.Proofs.Ytbjgklifmillgaa
open Go.RowKit
set_option linter.unusedVariables false

set_option maxRecDepth 100000 in
theorem worstGap_bad (s e t : List Int) (a a1 a2 : Option Addr) (n c n1 c1 n2 c2 : Nat) (g : Bool) (w : World) (hs : IntsR w a n s) (he : IntsR w a1 n1 e) (ht : IntsR w a2 n2 t) (h : ladErr s e t ≠ 0) :
    Calls Try.prog 44 #[.agg #[.slice a n c, .slice a1 n1 c1, .slice a2 n2 c2, .bool g]] w fun e' w' => e' = .returned (.tuple #[.int .i64 0, .agg #[.int .i64 0, .int .i64 0], .int .i64 (ladErr s e t)]) ∧ Below w.heap.size w w' := by
  have HS := Lib.hid (fun (v : World) (hb' : Below w.heap.size w v) => initialOf_bad s e t a a1 a2 n c n1 c1 n2 c2 g v (hs.below hb') (he.below hb') (ht.below hb') h)
  clear hs he ht
  generalize ladErr s e t = el at HS h
  have h1' : (el != 0) = true := by simpa using h
  clear h
  go_enter Try.func44, Try.ntmps44
  go_wp2_with fail
  refine (HS.out _ (by (repeat' (first | (with_reducible exact Below.refl _ _) | (with_reducible assumption) | (with_reducible refine Below.drewN ?_ _) | (with_reducible refine Below.alloc ?_ ?_ _) | (with_reducible refine Below.drew ?_) | (with_reducible refine Below.setCell ?_ ?_ _) | (with_reducible refine Below.step (by assumption) ?_ ?_) | (with_reducible exact And.left (by assumption)) | go_size)))).mono ?_
  rintro e5 w5 ⟨rfl, hb5⟩
  have hz5 := hb5.size
  simp only [World.size_alloc] at hz5
  have r0 : w5.cell? ⟨w.heap.size + 1, 0, none⟩ = some (.int .i64 0) := by { rw [cellB hb5 _ _ (by first | (simp; done) | (simp; omega) | omega)]; all_goals (first | assumption | go_simp) }; have r1 : w5.cell? ⟨w.heap.size + 1, 1, none⟩ = some (.int .i64 0) := by { rw [cellB hb5 _ _ (by first | (simp; done) | (simp; omega) | omega)]; all_goals (first | assumption | go_simp) }; have f0 : w5.frozen? ⟨w.heap.size + 1, 0, none⟩ = false := by { rw [frozenB hb5 _ _ (by first | (simp; done) | (simp; omega) | omega)]; all_goals (first | assumption | go_simp) }; have f1 : w5.frozen? ⟨w.heap.size + 1, 1, none⟩ = false := by { rw [frozenB hb5 _ _ (by first | (simp; done) | (simp; omega) | omega)]; all_goals (first | assumption | go_simp) }
  have HB5 := Lib.hid (show Below w.heap.size w w5 by (repeat' (first | (with_reducible exact Below.refl _ _) | (with_reducible assumption) | (with_reducible refine Below.drewN ?_ _) | (with_reducible refine Below.alloc ?_ ?_ _) | (with_reducible refine Below.drew ?_) | (with_reducible refine Below.setCell ?_ ?_ _) | (with_reducible refine Below.step (by assumption) ?_ ?_) | (with_reducible exact And.left (by assumption)) | go_size)))
  clear hb5
  go_wp2
  refine bodyPost_ret (v := .tuple #[.int .i64 0, .agg #[.int .i64 0, .int .i64 0], .int .i64 el]) (by simp [results, Try.results44, go_sem, *]) rfl ⟨rfl, ?_⟩
  have := HB5.out
  (repeat' (first | (with_reducible exact Below.refl _ _) | (with_reducible assumption) | (with_reducible refine Below.drewN ?_ _) | (with_reducible refine Below.alloc ?_ ?_ _) | (with_reducible refine Below.drew ?_) | (with_reducible refine Below.setCell ?_ ?_ _) | (with_reducible refine Below.step (by assumption) ?_ ?_) | (with_reducible exact And.left (by assumption)) | go_size))
set_option maxHeartbeats 1000000 in
set_option maxRecDepth 100000 in
theorem worstGap_ok (s e t : List Int) (a a1 a2 : Option Addr) (n c c1 c2 L : Nat) (g : Bool) (w : World) (hs : IntsR w a n s) (he : IntsR w a1 n e) (ht : IntsR w a2 n t) (h : ladErr s e t = 0) (hl : Lad s e g n L) :
    Calls Try.prog 44 #[.agg #[.slice a n c, .slice a1 n c1, .slice a2 n c2, .bool g]] w fun e' w' => e' = .returned (.tuple #[.int .i64 (wI s e n L), .agg #[.int .i64 (wP s e n L), .int .i64 (wQ s e n L)], .int .i64 (wE s e n L)]) ∧ Below w.heap.size w w' := by
  have hLn := hl.Ln
  have hn0 := hl.n0
  have hn6 := hl.n6
  have HIO := Lib.hid (fun (v : World) (hb : Below w.heap.size w v) => initialOf_ok s e t a a1 a2 n c n c1 n c2 L g v (hs.below hb) (he.below hb) (ht.below hb) h hl.hL)
  have HC := Lib.hid (fun (w' : World) => chainOf_any a a1 a2 n c n c1 n c2 g w')
  have HI := Lib.hid (fun (w' : World) (hb' : Below w.heap.size w w') => cinit_main s e a a1 n c n c1 L g w' (hs.below hb') (he.below hb') rfl hn0 hn6 hl.hL hLn.1 hLn.2 (fun x hx => by have := hl.bs x hx; omega) hl.be)
  have HD := hl.dd_bd
  have HNB := Lib.hid (fun j => hl.nu_bd j)
  have HGB := Lib.hid (fun j => hl.gpN_bd j)
  clear hs he ht h hl hLn
  obtain ⟨D, hD⟩ : ∃ D, D = dd s e L L := ⟨_, rfl⟩
  rw [← hD] at HD HI HNB HGB
  have HDD := Lib.hid hD
  clear hD
  go_enter Try.func44, Try.ntmps44
  go_wp2_with fail
  refine (HIO.out _ (by (repeat' (first | (with_reducible exact Below.refl _ _) | (with_reducible assumption) | (with_reducible refine Below.drewN ?_ _) | (with_reducible refine Below.alloc ?_ ?_ _) | (with_reducible refine Below.drew ?_) | (with_reducible refine Below.setCell ?_ ?_ _) | (with_reducible refine Below.step (by assumption) ?_ ?_) | (with_reducible exact And.left (by assumption)) | go_size)))).mono ?_
  rintro e5 w5 ⟨hb5, hfr⟩
  have hz5 := hb5.size
  simp only [World.size_alloc] at hz5
  have q05 : w5.cell? ⟨w.heap.size, 0, none⟩ = some (.slice a n c) := by { rw [cellB hb5 _ _ (by first | (simp; done) | (simp; omega) | omega)]; all_goals (first | assumption | go_simp) }; have q15 : w5.cell? ⟨w.heap.size, 1, none⟩ = some (.slice a1 n c1) := by { rw [cellB hb5 _ _ (by first | (simp; done) | (simp; omega) | omega)]; all_goals (first | assumption | go_simp) }; have q25 : w5.cell? ⟨w.heap.size, 2, none⟩ = some (.slice a2 n c2) := by { rw [cellB hb5 _ _ (by first | (simp; done) | (simp; omega) | omega)]; all_goals (first | assumption | go_simp) }; have q35 : w5.cell? ⟨w.heap.size, 3, none⟩ = some (.bool g) := by { rw [cellB hb5 _ _ (by first | (simp; done) | (simp; omega) | omega)]; all_goals (first | assumption | go_simp) }; have r05 : w5.cell? ⟨w.heap.size + 1, 0, none⟩ = some (.int .i64 0) := by { rw [cellB hb5 _ _ (by first | (simp; done) | (simp; omega) | omega)]; all_goals (first | assumption | go_simp) }; have r15 : w5.cell? ⟨w.heap.size + 1, 1, none⟩ = some (.int .i64 0) := by { rw [cellB hb5 _ _ (by first | (simp; done) | (simp; omega) | omega)]; all_goals (first | assumption | go_simp) }; have f05 : w5.frozen? ⟨w.heap.size + 1, 0, none⟩ = false := by { rw [frozenB hb5 _ _ (by first | (simp; done) | (simp; omega) | omega)]; all_goals (first | assumption | go_simp) }; have f15 : w5.frozen? ⟨w.heap.size + 1, 1, none⟩ = false := by { rw [frozenB hb5 _ _ (by first | (simp; done) | (simp; omega) | omega)]; all_goals (first | assumption | go_simp) }; have l5 : w.heap.size < w5.heap.size := by { omega }; have m5 : w.heap.size + 1 < w5.heap.size := by { omega }
  have HB5 := Lib.hid (show Below w.heap.size w w5 by (repeat' (first | (with_reducible exact Below.refl _ _) | (with_reducible assumption) | (with_reducible refine Below.drewN ?_ _) | (with_reducible refine Below.alloc ?_ ?_ _) | (with_reducible refine Below.drew ?_) | (with_reducible refine Below.setCell ?_ ?_ _) | (with_reducible refine Below.step (by assumption) ?_ ?_) | (with_reducible exact And.left (by assumption)) | go_size)))
  clear hb5 hz5 HIO
  rcases hfr with ⟨hbad, rfl⟩ | ⟨hgood, au, cu, rfl, _⟩
  · have HW := Lib.hid (show wOk s e n L = false by unfold wOk; rw [hbad]; rfl)
    clear hbad
    go_wp2
    refine bodyPost_ret (v := .tuple #[.int .i64 0, .agg #[.int .i64 0, .int .i64 0], .int .i64 8]) (by simp [results, Try.results44, go_sem, *]) rfl ⟨by unfold wI wP wQ wE; rw [HW.out]; rfl, ?_⟩
    have := HB5.out
    (repeat' (first | (with_reducible exact Below.refl _ _) | (with_reducible assumption) | (with_reducible refine Below.drewN ?_ _) | (with_reducible refine Below.alloc ?_ ?_ _) | (with_reducible refine Below.drew ?_) | (with_reducible refine Below.setCell ?_ ?_ _) | (with_reducible refine Below.step (by assumption) ?_ ?_) | (with_reducible exact And.left (by assumption)) | go_size))
  · have HGD := Lib.hid hgood
    clear hgood
    go_wp2_with fail
    refine (HC.out _).mono ?_
    rintro e6 w6 ⟨rfl, hb6⟩
    have hz6 := hb6.size
    have q06 : w6.cell? ⟨w.heap.size, 0, none⟩ = some (.slice a n c) := by { rw [cellB hb6 _ _ (by first | (simp; done) | (simp; omega) | omega)]; all_goals (first | assumption | go_simp) }; have q16 : w6.cell? ⟨w.heap.size, 1, none⟩ = some (.slice a1 n c1) := by { rw [cellB hb6 _ _ (by first | (simp; done) | (simp; omega) | omega)]; all_goals (first | assumption | go_simp) }; have q26 : w6.cell? ⟨w.heap.size, 2, none⟩ = some (.slice a2 n c2) := by { rw [cellB hb6 _ _ (by first | (simp; done) | (simp; omega) | omega)]; all_goals (first | assumption | go_simp) }; have q36 : w6.cell? ⟨w.heap.size, 3, none⟩ = some (.bool g) := by { rw [cellB hb6 _ _ (by first | (simp; done) | (simp; omega) | omega)]; all_goals (first | assumption | go_simp) }; have r06 : w6.cell? ⟨w.heap.size + 1, 0, none⟩ = some (.int .i64 0) := by { rw [cellB hb6 _ _ (by first | (simp; done) | (simp; omega) | omega)]; all_goals (first | assumption | go_simp) }; have r16 : w6.cell? ⟨w.heap.size + 1, 1, none⟩ = some (.int .i64 0) := by { rw [cellB hb6 _ _ (by first | (simp; done) | (simp; omega) | omega)]; all_goals (first | assumption | go_simp) }; have f06 : w6.frozen? ⟨w.heap.size + 1, 0, none⟩ = false := by { rw [frozenB hb6 _ _ (by first | (simp; done) | (simp; omega) | omega)]; all_goals (first | assumption | go_simp) }; have f16 : w6.frozen? ⟨w.heap.size + 1, 1, none⟩ = false := by { rw [frozenB hb6 _ _ (by first | (simp; done) | (simp; omega) | omega)]; all_goals (first | assumption | go_simp) }; have l6 : w.heap.size < w6.heap.size := by { omega }; have m6 : w.heap.size + 1 < w6.heap.size := by { omega }
    have HB6 := Lib.hid (HB5.out.trans (hb6.mono HB5.out.size))
    clear hz6 q05 q15 q25 q35 r05 r15 f05 f15 l5 m5
    clear hb6
    go_wp2_with fail
    refine (HI.out _ HB6.out).mono ?_
    rintro e7 w7 ⟨g7, rfl, hb7, hi7⟩
    have hz7 := hb7.size
    have q07 : w7.cell? ⟨w.heap.size, 0, none⟩ = some (.slice a n c) := by { rw [cellB hb7 _ _ (by first | (simp; done) | (simp; omega) | omega)]; all_goals (first | assumption | go_simp) }; have q17 : w7.cell? ⟨w.heap.size, 1, none⟩ = some (.slice a1 n c1) := by { rw [cellB hb7 _ _ (by first | (simp; done) | (simp; omega) | omega)]; all_goals (first | assumption | go_simp) }; have q27 : w7.cell? ⟨w.heap.size, 2, none⟩ = some (.slice a2 n c2) := by { rw [cellB hb7 _ _ (by first | (simp; done) | (simp; omega) | omega)]; all_goals (first | assumption | go_simp) }; have q37 : w7.cell? ⟨w.heap.size, 3, none⟩ = some (.bool g) := by { rw [cellB hb7 _ _ (by first | (simp; done) | (simp; omega) | omega)]; all_goals (first | assumption | go_simp) }; have r07 : w7.cell? ⟨w.heap.size + 1, 0, none⟩ = some (.int .i64 0) := by { rw [cellB hb7 _ _ (by first | (simp; done) | (simp; omega) | omega)]; all_goals (first | assumption | go_simp) }; have r17 : w7.cell? ⟨w.heap.size + 1, 1, none⟩ = some (.int .i64 0) := by { rw [cellB hb7 _ _ (by first | (simp; done) | (simp; omega) | omega)]; all_goals (first | assumption | go_simp) }; have f07 : w7.frozen? ⟨w.heap.size + 1, 0, none⟩ = false := by { rw [frozenB hb7 _ _ (by first | (simp; done) | (simp; omega) | omega)]; all_goals (first | assumption | go_simp) }; have f17 : w7.frozen? ⟨w.heap.size + 1, 1, none⟩ = false := by { rw [frozenB hb7 _ _ (by first | (simp; done) | (simp; omega) | omega)]; all_goals (first | assumption | go_simp) }; have l7 : w.heap.size < w7.heap.size := by { omega }; have m7 : w.heap.size + 1 < w7.heap.size := by { omega }
    have HB7 := Lib.hid (HB6.out.trans (hb7.mono HB6.out.size))
    clear hz7 q06 q16 q26 q36 r06 r16 f06 f16 l6 m6
    clear hb7 HI HC
    obtain ⟨bn, on, hbn, lbn, hcn⟩ := hi7.addr (by omega)
    simp only [Option.some.injEq, Addr.mk.injEq, and_true] at hbn
    obtain ⟨rfl, rfl⟩ := hbn
    have HCN := Lib.hid (fun j (hj : j < n + 1) => (show w7.cell? ⟨g7, j, none⟩ = some (.int .i64 (nu s e L j)) by
      have := hcn j hj
      rwa [nums_nu s e n L j (by omega), Nat.zero_add] at this))
    clear hi7 hcn
    go_wp2_with fail
    go_loopw [9, 30] (fun v i wr => ∃ k : Nat, i = .int .i64 k ∧ k ≤ n ∧ v = .int .i64 ((wst (gpN s e L) k : Nat) : Int) ∧ Hid (Below w7.heap.size w7 wr)) (fun _ i _ => n - (intOf i).toNat)
    case atStart => exact ⟨0, rfl, Nat.zero_le _, rfl, Lib.hid (Below.refl _ _)⟩
    case round =>
      obtain ⟨k, rfl, hk, rfl, hB⟩ := hrel
      obtain ⟨w8, rfl⟩ : ∃ w', w' = wr := ⟨wr, rfl⟩
      have hb8 := hB.out
      have hz8 := hb8.size
      have q08 : w8.cell? ⟨w.heap.size, 0, none⟩ = some (.slice a n c) := by { rw [cellB hb8 _ _ (by first | (simp; done) | (simp; omega) | omega)]; all_goals (first | assumption | go_simp) }; have q18 : w8.cell? ⟨w.heap.size, 1, none⟩ = some (.slice a1 n c1) := by { rw [cellB hb8 _ _ (by first | (simp; done) | (simp; omega) | omega)]; all_goals (first | assumption | go_simp) }; have q28 : w8.cell? ⟨w.heap.size, 2, none⟩ = some (.slice a2 n c2) := by { rw [cellB hb8 _ _ (by first | (simp; done) | (simp; omega) | omega)]; all_goals (first | assumption | go_simp) }; have q38 : w8.cell? ⟨w.heap.size, 3, none⟩ = some (.bool g) := by { rw [cellB hb8 _ _ (by first | (simp; done) | (simp; omega) | omega)]; all_goals (first | assumption | go_simp) }; have r08 : w8.cell? ⟨w.heap.size + 1, 0, none⟩ = some (.int .i64 0) := by { rw [cellB hb8 _ _ (by first | (simp; done) | (simp; omega) | omega)]; all_goals (first | assumption | go_simp) }; have r18 : w8.cell? ⟨w.heap.size + 1, 1, none⟩ = some (.int .i64 0) := by { rw [cellB hb8 _ _ (by first | (simp; done) | (simp; omega) | omega)]; all_goals (first | assumption | go_simp) }; have f08 : w8.frozen? ⟨w.heap.size + 1, 0, none⟩ = false := by { rw [frozenB hb8 _ _ (by first | (simp; done) | (simp; omega) | omega)]; all_goals (first | assumption | go_simp) }; have f18 : w8.frozen? ⟨w.heap.size + 1, 1, none⟩ = false := by { rw [frozenB hb8 _ _ (by first | (simp; done) | (simp; omega) | omega)]; all_goals (first | assumption | go_simp) }; have l8 : w.heap.size < w8.heap.size := by { omega }; have m8 : w.heap.size + 1 < w8.heap.size := by { omega }
      have HB8 := Lib.hid (HB7.out.trans (hb8.mono HB7.out.size))
      clear hz8 q07 q17 q27 q37 r07 r17 f07 f17 l7 m7
      have lb8 : g7 < w8.heap.size := by have := hb8.size; omega
      have hWn : wst (gpN s e L) k < n := by
        rcases Nat.eq_zero_or_pos k with h | h
        · subst h; exact hn0
        · have := wst_lt (gpN s e L) h; omega
      obtain ⟨W, hW⟩ : ∃ W, wst (gpN s e L) k = W := ⟨_, rfl⟩
      rw [hW] at hWn ⊢
      have cW := HCN.out W (by omega)
      have cW1 := HCN.out (W + 1) (by omega)
      rw [← cellB hb8 _ _ lbn] at cW cW1
      have bW := HNB.out W
      have bW1 := HNB.out (W + 1)
      have HGW := Lib.hid (show gpN s e L W = nu s e L W - nu s e L (W + 1) from rfl)
      have HWI := Lib.hid hW
      have W0 : (0 : Int) ≤ (W : Int) := by omega
      have W1 : (W : Int) < (n : Int) + 1 := by omega
      have W2 : (W : Int) + 1 < (n : Int) + 1 := by omega
      clear hb8 hW
      rcases Nat.lt_or_ge k n with hlt | hge
      · have ck := HCN.out k (by omega)
        have ck1 := HCN.out (k + 1) (by omega)
        rw [← cellB hB.out _ _ lbn] at ck ck1
        have bk := HNB.out k
        have bk1 := HNB.out (k + 1)
        have HGK := Lib.hid (show gpN s e L k = nu s e L k - nu s e L (k + 1) from rfl)
        have HSU := Lib.hid (wst_next HWI.out)
        rw [HGK.out, HGW.out] at HSU
        generalize nu s e L W = x0 at *
        generalize nu s e L (W + 1) = x1 at *
        generalize nu s e L k = x2 at *
        generalize nu s e L (k + 1) = x3 at *
        have k0 : (0 : Int) ≤ (k : Int) := by omega
        have k1 : (k : Int) < (n : Int) + 1 := by omega
        have k2 : (k : Int) + 1 < (n : Int) + 1 := by omega
        have k3 : (k : Int) < (n : Int) := by omega
        have HBr := Lib.hid hB.out
        clear hB
        by_cases ht : x0 - x1 < x2 - x3
        · have HSV := Lib.hid (HSU.out.trans (if_pos ht))
          have ht1 : decide (x2 - x3 > x0 - x1) = true := by simpa using ht
          clear HSU
          go_wp2
          refine later_all (by kernel_rfl) (by kernel_rfl) ?_; repeat go_big_quiet_step(fail)
          refine wpQuiet_nil ?_; intro w9 hb9
          have HBs := Lib.hid (HBr.out.trans (hb9.mono HBr.out.size))
          clear hb9
          go_wp2
          go_roundw
          case rel => exact ⟨k + 1, by go_num, by omega, by rw [HSV.out], HBs⟩
          case measure => simp [intOf]; omega
        · have HSV := Lib.hid (HSU.out.trans (if_neg ht))
          have ht1 : decide (x2 - x3 > x0 - x1) = false := by simpa using ht
          clear HSU
          go_wp2
          refine later_all (by kernel_rfl) (by kernel_rfl) ?_; repeat go_big_quiet_step(fail)
          refine wpQuiet_nil ?_; intro w9 hb9
          have HBs := Lib.hid (HBr.out.trans (hb9.mono HBr.out.size))
          clear hb9
          go_wp2
          go_roundw
          case rel => exact ⟨k + 1, by go_num, by omega, by rw [HSV.out], HBs⟩
          case measure => simp [intOf]; omega
      · obtain rfl : n = k := by omega
        have HGN := Lib.hid (HGB.out W)
        rw [HGW.out] at HGN
        obtain ⟨⟨P, Q⟩, hPQ⟩ : ∃ f, low (gpN s e L W) D = f := ⟨_, rfl⟩
        have HWF := Lib.hid (show wF s e n L = (P, Q) by unfold wF; rw [HWI.out, ← HDD.out]; exact hPQ)
        rw [HGW.out] at hPQ
        generalize nu s e L W = x0 at *
        generalize nu s e L (W + 1) = x1 at *
        have hlow := fun w' => lowest_any (x0 - x1) D w' (by omega) (by omega) (by omega) (by omega)
        rw [show (x0 - x1).tdiv (gc (x0 - x1) D) = P from congrArg Prod.fst hPQ, show D / gc (x0 - x1) D = Q from congrArg Prod.snd hPQ] at hlow
        have HLOW := Lib.hid hlow
        have HSM := Lib.hid (fun w' => isSmall_any P Q w')
        rw [show (wi P (-1000000000) 1000000000 && decide (Q ≤ 1000000000)) = smallF (P, Q) from rfl] at HSM
        have HBr := Lib.hid hB.out
        clear hPQ hlow hB
        go_wp2_with fail
        go_cut [11] from 56 to 67 (fun v11 wx => ∃ X : Nat, v11 = .pointer (some ⟨X, 0, none⟩) ∧ wx.cell? ⟨X, 0, none⟩ = some (.int .i64 P) ∧ wx.cell? ⟨X, 1, none⟩ = some (.int .i64 Q) ∧ X < wx.heap.size ∧ Hid (Below w8.heap.size w8 wx))
        case first =>
          have HN := Lib.hid (Below.refl w8.heap.size w8).drew
          refine wp_region_laterT (B := w8.heap.size) (.head 0 (.head 1 (.head 2 (.head 3 (.head 4 (.head 5 (.head 6 (.head 7 (.head 8 (.head 9 (.head 10 (.two 11 (.one 12 (.one 13 .done)) 12 (.one 11 (.one 13 .done)))))))))))))) (by kernel_rfl) (by kernel_rfl) ?_
          repeat (refine tree_head rfl ?_; (show wpQuiet _ _ _ _ (_ :: _) _; go_big_quiet_step (fail)); refine wpQuiet_nil ?_)
          refine tree_two rfl rfl ?_ ?_
          · go_wp2_with fail
            refine (HLOW.out _).mono ?_
            rintro ex wx1 ⟨rfl, hbx⟩
            have hzx := hbx.size
            have HN := Lib.hid (HN.out.trans (hbx.mono HN.out.size))
            clear hbx
            go_wp2_with fail
            refine tailL_mk HN.out ?_
            repeat (refine tree_head rfl ?_; (show wpQuiet _ _ _ _ (_ :: _) _; go_big_quiet_step (fail)); refine wpQuiet_nil ?_)
            refine tree_one rfl ?_
            go_wp2_with fail
            obtain ⟨X9, hX9⟩ : ∃ X, X = wx1.heap.size := ⟨_, rfl⟩
            have hNX : w8.heap.size ≤ X9 := by rw [hX9]; exact HN.out.size
            have hx9 : (wx1.alloc (Obj.cells #[.int .i64 0, .int .i64 0] 39)).heap[X9]? = some (.cells #[.int .i64 0, .int .i64 0] 39) := by rw [hX9]; exact heap_alloc_new _ _
            have l9 : X9 < (wx1.alloc (Obj.cells #[.int .i64 0, .int .i64 0] 39)).heap.size := by rw [hX9]; simp
            have hs9 : (wx1.alloc (Obj.cells #[.int .i64 0, .int .i64 0] 39)).heap.size = wx1.heap.size + 1 := by simp
            have hbx : Below wx1.heap.size wx1 (wx1.alloc (Obj.cells #[.int .i64 0, .int .i64 0] 39)) := by (repeat' (first | (with_reducible exact Below.refl _ _) | (with_reducible assumption) | (with_reducible refine Below.drewN ?_ _) | (with_reducible refine Below.alloc ?_ ?_ _) | (with_reducible refine Below.drew ?_) | (with_reducible refine Below.setCell ?_ ?_ _) | (with_reducible refine Below.step (by assumption) ?_ ?_) | (with_reducible exact And.left (by assumption)) | go_size))
            try simp only [← hX9]
            generalize (wx1.alloc (Obj.cells #[.int .i64 0, .int .i64 0] 39)) = wx2 at *
            have HX9 := Lib.hid (And.intro hX9 hs9)
            have HN := Lib.hid (HN.out.trans (hbx.mono HN.out.size))
            clear hbx hX9 hs9
            refine tailL_mk HN.out ?_
            repeat (refine tree_head rfl ?_; (show wpQuiet _ _ _ _ (_ :: _) _; go_big_quiet_step (fail)); refine wpQuiet_nil ?_)
            refine tree_one rfl ?_
            have c90 := cell_of_row _ _ 0 _ _ _ hx9
            have f90 := frozen_of_row _ _ 0 _ _ hx9
            have c91 := cell_of_row _ _ 1 _ _ _ hx9
            have f91 := frozen_of_row _ _ 1 _ _ hx9
            simp only [List.getElem?_toArray, List.getElem?_cons_zero, List.getElem?_cons_succ] at c90 c91
            go_wp2_with fail
            have HN := Lib.hid (show Below w8.heap.size w8 ((wx2.setCell ⟨X9, 0, none⟩ (.int .i64 P)).setCell ⟨X9, 1, none⟩ (.int .i64 Q)) from Below.setCell (Below.setCell (HN.out) hNX _) hNX _)
            have hxo := hx9
            have hx9 : ((wx2.setCell ⟨X9, 0, none⟩ (.int .i64 P)).setCell ⟨X9, 1, none⟩ (.int .i64 Q)).heap[X9]? = some (.cells #[.int .i64 P, .int .i64 Q] 39) := blk_set (blk_set (hx9) 0 (.int .i64 P)) 1 (.int .i64 Q)
            refine tailL_mk HN.out ?_
            repeat (refine tree_head rfl ?_; (show wpQuiet _ _ _ _ (_ :: _) _; go_big_quiet_step (fail)); refine wpQuiet_nil ?_)
            refine tree_done ?_
            go_wp2_with fail
            go_meet
            case rel => exact ⟨X9, rfl, by go_simp, by go_simp, by simpa using l9, HN⟩
          · go_wp2_with fail
            obtain ⟨X9, hX9⟩ : ∃ X, X = w8.heap.size := ⟨_, rfl⟩
            have hNX : w8.heap.size ≤ X9 := by rw [hX9]; exact HN.out.size
            have hx9 : (w8.alloc (Obj.cells #[.int .i64 0, .int .i64 0] 39)).drew.heap[X9]? = some (.cells #[.int .i64 0, .int .i64 0] 39) := by rw [hX9]; exact heap_alloc_new _ _
            have l9 : X9 < (w8.alloc (Obj.cells #[.int .i64 0, .int .i64 0] 39)).drew.heap.size := by rw [hX9]; simp
            have hs9 : (w8.alloc (Obj.cells #[.int .i64 0, .int .i64 0] 39)).drew.heap.size = w8.heap.size + 1 := by simp
            have hbx : Below w8.heap.size w8 (w8.alloc (Obj.cells #[.int .i64 0, .int .i64 0] 39)).drew := by (repeat' (first | (with_reducible exact Below.refl _ _) | (with_reducible assumption) | (with_reducible refine Below.drewN ?_ _) | (with_reducible refine Below.alloc ?_ ?_ _) | (with_reducible refine Below.drew ?_) | (with_reducible refine Below.setCell ?_ ?_ _) | (with_reducible refine Below.step (by assumption) ?_ ?_) | (with_reducible exact And.left (by assumption)) | go_size))
            try simp only [← hX9]
            generalize (w8.alloc (Obj.cells #[.int .i64 0, .int .i64 0] 39)).drew = wx4 at *
            have HX9 := Lib.hid (And.intro hX9 hs9)
            have HN := Lib.hid hbx
            clear hbx hX9 hs9
            refine tailL_mk HN.out ?_
            repeat (refine tree_head rfl ?_; (show wpQuiet _ _ _ _ (_ :: _) _; go_big_quiet_step (fail)); refine wpQuiet_nil ?_)
            refine tree_one rfl ?_
            go_wp2_with fail
            refine (HLOW.out _).mono ?_
            rintro ex wx5 ⟨rfl, hbx⟩
            have hzx := hbx.size
            have HN := Lib.hid (HN.out.trans (hbx.mono HN.out.size))
            have hx9 := (hbx.block X9 l9).trans hx9
            have l9 := Nat.lt_of_lt_of_le l9 hbx.size
            clear hbx
            go_wp2_with fail
            refine tailL_mk HN.out ?_
            repeat (refine tree_head rfl ?_; (show wpQuiet _ _ _ _ (_ :: _) _; go_big_quiet_step (fail)); refine wpQuiet_nil ?_)
            refine tree_one rfl ?_
            have c90 := cell_of_row _ _ 0 _ _ _ hx9
            have f90 := frozen_of_row _ _ 0 _ _ hx9
            have c91 := cell_of_row _ _ 1 _ _ _ hx9
            have f91 := frozen_of_row _ _ 1 _ _ hx9
            simp only [List.getElem?_toArray, List.getElem?_cons_zero, List.getElem?_cons_succ] at c90 c91
            go_wp2_with fail
            have HN := Lib.hid (show Below w8.heap.size w8 ((wx5.setCell ⟨X9, 0, none⟩ (.int .i64 P)).setCell ⟨X9, 1, none⟩ (.int .i64 Q)) from Below.setCell (Below.setCell (HN.out) hNX _) hNX _)
            have hxo := hx9
            have hx9 : ((wx5.setCell ⟨X9, 0, none⟩ (.int .i64 P)).setCell ⟨X9, 1, none⟩ (.int .i64 Q)).heap[X9]? = some (.cells #[.int .i64 P, .int .i64 Q] 39) := blk_set (blk_set (hx9) 0 (.int .i64 P)) 1 (.int .i64 Q)
            refine tailL_mk HN.out ?_
            repeat (refine tree_head rfl ?_; (show wpQuiet _ _ _ _ (_ :: _) _; go_big_quiet_step (fail)); refine wpQuiet_nil ?_)
            refine tree_done ?_
            go_wp2_with fail
            go_meet
            case rel => exact ⟨X9, rfl, by go_simp, by go_simp, by simpa using l9, HN⟩
        case rest =>
          obtain ⟨w9, rfl⟩ : ∃ w', w' = wc := ⟨wc, rfl⟩
          obtain ⟨X, rfl, x0c, x1c, lX, hN⟩ := hcut
          have hb9 := hN.out
          have hz9 := hb9.size
          have q09 : w9.cell? ⟨w.heap.size, 0, none⟩ = some (.slice a n c) := by { rw [cellB hb9 _ _ (by first | (simp; done) | (simp; omega) | omega)]; all_goals (first | assumption | go_simp) }; have q19 : w9.cell? ⟨w.heap.size, 1, none⟩ = some (.slice a1 n c1) := by { rw [cellB hb9 _ _ (by first | (simp; done) | (simp; omega) | omega)]; all_goals (first | assumption | go_simp) }; have q29 : w9.cell? ⟨w.heap.size, 2, none⟩ = some (.slice a2 n c2) := by { rw [cellB hb9 _ _ (by first | (simp; done) | (simp; omega) | omega)]; all_goals (first | assumption | go_simp) }; have q39 : w9.cell? ⟨w.heap.size, 3, none⟩ = some (.bool g) := by { rw [cellB hb9 _ _ (by first | (simp; done) | (simp; omega) | omega)]; all_goals (first | assumption | go_simp) }; have r09 : w9.cell? ⟨w.heap.size + 1, 0, none⟩ = some (.int .i64 0) := by { rw [cellB hb9 _ _ (by first | (simp; done) | (simp; omega) | omega)]; all_goals (first | assumption | go_simp) }; have r19 : w9.cell? ⟨w.heap.size + 1, 1, none⟩ = some (.int .i64 0) := by { rw [cellB hb9 _ _ (by first | (simp; done) | (simp; omega) | omega)]; all_goals (first | assumption | go_simp) }; have f09 : w9.frozen? ⟨w.heap.size + 1, 0, none⟩ = false := by { rw [frozenB hb9 _ _ (by first | (simp; done) | (simp; omega) | omega)]; all_goals (first | assumption | go_simp) }; have f19 : w9.frozen? ⟨w.heap.size + 1, 1, none⟩ = false := by { rw [frozenB hb9 _ _ (by first | (simp; done) | (simp; omega) | omega)]; all_goals (first | assumption | go_simp) }; have l9 : w.heap.size < w9.heap.size := by { omega }; have m9 : w.heap.size + 1 < w9.heap.size := by { omega }
          have HB9 := Lib.hid (HB8.out.trans (hb9.mono HB8.out.size))
          clear hz9 q08 q18 q28 q38 r08 r18 f08 f18 l8 m8
          clear hb9 hN
          go_wp2_with fail
          refine (HSM.out _).mono ?_
          rintro e10 wa ⟨rfl, hba⟩
          have hza := hba.size
          have r0a : wa.cell? ⟨w.heap.size + 1, 0, none⟩ = some (.int .i64 0) := by { rw [cellB hba _ _ (by first | (simp; done) | (simp; omega) | omega)]; all_goals (first | assumption | go_simp) }; have r1a : wa.cell? ⟨w.heap.size + 1, 1, none⟩ = some (.int .i64 0) := by { rw [cellB hba _ _ (by first | (simp; done) | (simp; omega) | omega)]; all_goals (first | assumption | go_simp) }; have f0a : wa.frozen? ⟨w.heap.size + 1, 0, none⟩ = false := by { rw [frozenB hba _ _ (by first | (simp; done) | (simp; omega) | omega)]; all_goals (first | assumption | go_simp) }; have f1a : wa.frozen? ⟨w.heap.size + 1, 1, none⟩ = false := by { rw [frozenB hba _ _ (by first | (simp; done) | (simp; omega) | omega)]; all_goals (first | assumption | go_simp) }; have la : w.heap.size + 1 < wa.heap.size := by { omega }; have x0a : wa.cell? ⟨X, 0, none⟩ = some (.int .i64 P) := by { rw [cellB hba _ _ (by first | (simp; done) | (simp; omega) | omega)]; all_goals (first | assumption | go_simp) }; have x1a : wa.cell? ⟨X, 1, none⟩ = some (.int .i64 Q) := by { rw [cellB hba _ _ (by first | (simp; done) | (simp; omega) | omega)]; all_goals (first | assumption | go_simp) }; have lXa : X < wa.heap.size := by { omega }
          have HBa := Lib.hid (HB9.out.trans (hba.mono HB9.out.size))
          clear hba hza r09 r19 f09 f19 l9 m9 x0c x1c lX
          have HOK := Lib.hid (show wOk s e n L = smallF (P, Q) by unfold wOk; rw [HGD.out, HWF.out]; rfl)
          cases hsm : smallF (P, Q)
          · rw [hsm] at HOK
            clear hsm
            go_wp2
            refine bodyPost_ret (v := .tuple #[.int .i64 0, .agg #[.int .i64 0, .int .i64 0], .int .i64 8]) (by simp [results, Try.results44, go_sem, *]) rfl ⟨by unfold wI wP wQ wE; rw [HOK.out]; rfl, ?_⟩
            have := HBa.out
            (repeat' (first | (with_reducible exact Below.refl _ _) | (with_reducible assumption) | (with_reducible refine Below.drewN ?_ _) | (with_reducible refine Below.alloc ?_ ?_ _) | (with_reducible refine Below.drew ?_) | (with_reducible refine Below.setCell ?_ ?_ _) | (with_reducible refine Below.step (by assumption) ?_ ?_) | (with_reducible exact And.left (by assumption)) | go_size))
          · rw [hsm] at HOK
            clear hsm
            go_wp2
            refine wp_region_laterY (B := wa.heap.size) [0, 1, 2] [] [3, 4] (by kernel_rfl) (by kernel_rfl) ?_; simp only [List.filterMap_cons, List.filterMap_nil, List.getElem?_cons_zero, List.getElem?_cons_succ]; repeat (show wpQuiet _ _ _ _ (_ :: _) _; go_big_quiet_step (fail))
            refine wpQuiet_nil ?_
            refine tailY_ends ?_
            refine ends_cons ?_
            go_wp2_with fail
            refine tailZ_end ?_
            refine ends_cons ?_
            go_wp2_with fail
            refine tailZ_end ?_
            refine ends_nil ?_
            go_wp2
            refine bodyPost_ret (v := .tuple #[.int .i64 W, .agg #[.int .i64 P, .int .i64 Q], .int .i64 0]) (by simp [results, Try.results44, go_sem, *]) rfl ⟨by unfold wI wP wQ wE; rw [HOK.out, HWF.out, HWI.out]; rfl, ?_⟩
            have := HBa.out
            (repeat' (first | (with_reducible exact Below.refl _ _) | (with_reducible assumption) | (with_reducible refine Below.drewN ?_ _) | (with_reducible refine Below.alloc ?_ ?_ _) | (with_reducible refine Below.drew ?_) | (with_reducible refine Below.setCell ?_ ?_ _) | (with_reducible refine Below.step (by assumption) ?_ ?_) | (with_reducible exact And.left (by assumption)) | go_size))
end Go.Proofs.Ytbjgklifmillgaa
