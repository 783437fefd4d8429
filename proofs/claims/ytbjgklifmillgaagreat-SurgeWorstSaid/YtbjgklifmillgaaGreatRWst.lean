import Derived.Test.YtbjgklifmillgaaGreatMSch
import Derived.Test.YtbjgklifmillgaaGreatSIniLib
import Derived.Test.YtbjgklifmillgaaGreatWstPlain
/- The worst gap and the envelope, of the reference. -/
namespace Go.Proofs.YtbjgklifmillgaaGreat
open Go.RowKit
set_option linter.unusedVariables false

theorem ratioFrac_v (p : Nat → Prop) (v : Value) (q : Rat) (w : World) (h : RatioR p w v q) :
    Calls Tryz.prog 45 #[v] w fun e' w' => e' = .returned (.tuple #[.agg #[.int .i64 (if smallQ q = true then q.num else 0), .int .i64 (if smallQ q = true then (q.den : Int) else 0)], .bool (smallQ q)]) ∧ Below w.heap.size w w' := by
  refine (ratioFrac_any p v q w h).mono ?_
  rintro e' w' ⟨rfl, hb⟩
  refine ⟨?_, hb⟩
  cases smallQ q <;> rfl
set_option maxHeartbeats 2000000 in
set_option maxRecDepth 100000 in
theorem rworst_any (s e : List Int) (a a1 a2 : Option Addr) (n c c1 n2 c2 L : Nat) (g : Bool) (w : World) (hs : IntsR w a n s) (he : IntsR w a1 n e) (h : Lad s e g n L) :
    Calls Tryz.prog 12 #[.agg #[.slice a n c, .slice a1 n c1, .slice a2 n2 c2, .bool g]] w fun e' w' => e' = .returned (.tuple #[.int .i64 (wI s e n L), .agg #[.int .i64 (wP s e n L), .int .i64 (wQ s e n L)], .bool (wOk s e n L)]) ∧ Below w.heap.size w w' := by
  have hn0 := h.n0
  have hn6 := h.n6
  have HIN := Lib.hid (fun (v : World) (hb : Below w.heap.size w v) => rinitial_any s e a a1 a2 n c c1 n2 c2 L g v (hs.below hb) (he.below hb) h)
  have HFS := Lib.hid h.fqs
  have HSZ := Lib.hid (fun j (hj : j ≤ n) => h.szv hj)
  have HCG := Lib.hid (fun i j => h.cmp_gap i j)
  have HFD := Lib.hid (fun i => h.fqd i (i + 1))
  clear hs he h
  go_enter Tryz.func12, Tryz.ntmps12
  go_wp2_with fail
  refine (HIN.out _ (by (repeat' (first | (with_reducible exact Below.refl _ _) | (with_reducible assumption) | (with_reducible refine Below.drewN ?_ _) | (with_reducible refine Below.alloc ?_ ?_ _) | (with_reducible refine Below.drew ?_) | (with_reducible refine Below.setCell ?_ ?_ _) | (with_reducible refine Below.step (by assumption) ?_ ?_) | (with_reducible exact And.left (by assumption)) | go_size)))).mono ?_
  rintro e5 w5 ⟨aq, cq, rfl, hb5, ys, hsq, heq⟩
  have hz5 := hb5.size
  simp only [World.size_alloc] at hz5
  have q05 : w5.cell? ⟨w.heap.size, 0, none⟩ = some (.slice a n c) := by { rw [cellB hb5 _ _ (by first | (simp; done) | (simp; omega) | omega)]; all_goals (first | assumption | go_simp) }; have q15 : w5.cell? ⟨w.heap.size, 1, none⟩ = some (.slice a1 n c1) := by { rw [cellB hb5 _ _ (by first | (simp; done) | (simp; omega) | omega)]; all_goals (first | assumption | go_simp) }; have q25 : w5.cell? ⟨w.heap.size, 2, none⟩ = some (.slice a2 n2 c2) := by { rw [cellB hb5 _ _ (by first | (simp; done) | (simp; omega) | omega)]; all_goals (first | assumption | go_simp) }; have q35 : w5.cell? ⟨w.heap.size, 3, none⟩ = some (.bool g) := by { rw [cellB hb5 _ _ (by first | (simp; done) | (simp; omega) | omega)]; all_goals (first | assumption | go_simp) }; have r05 : w5.cell? ⟨w.heap.size + 1, 0, none⟩ = some (.int .i64 0) := by { rw [cellB hb5 _ _ (by first | (simp; done) | (simp; omega) | omega)]; all_goals (first | assumption | go_simp) }; have r15 : w5.cell? ⟨w.heap.size + 1, 1, none⟩ = some (.int .i64 0) := by { rw [cellB hb5 _ _ (by first | (simp; done) | (simp; omega) | omega)]; all_goals (first | assumption | go_simp) }; have f05 : w5.frozen? ⟨w.heap.size + 1, 0, none⟩ = false := by { rw [frozenB hb5 _ _ (by first | (simp; done) | (simp; omega) | omega)]; all_goals (first | assumption | go_simp) }; have f15 : w5.frozen? ⟨w.heap.size + 1, 1, none⟩ = false := by { rw [frozenB hb5 _ _ (by first | (simp; done) | (simp; omega) | omega)]; all_goals (first | assumption | go_simp) }; have l5 : w.heap.size < w5.heap.size := by { omega }; have m5 : w.heap.size + 1 < w5.heap.size := by { omega }
  have HB5 := Lib.hid (show Below w.heap.size w w5 by (repeat' (first | (with_reducible exact Below.refl _ _) | (with_reducible assumption) | (with_reducible refine Below.drewN ?_ _) | (with_reducible refine Below.alloc ?_ ?_ _) | (with_reducible refine Below.drew ?_) | (with_reducible refine Below.setCell ?_ ?_ _) | (with_reducible refine Below.step (by assumption) ?_ ?_) | (with_reducible exact And.left (by assumption)) | go_size)))
  have HE := Lib.hid (show ∀ k, k < n + 1 → EntL (fun b => b < w5.heap.size) w5 ys k (vq s e L k) from heq)
  have HFR := Lib.hid (rfracs_any _ ys aq (n + 1) cq w5 hsq.1 heq (by omega))
  rw [HFS.out] at HFR
  obtain ⟨bq, oq, rfl, _, lbq, hcq⟩ := hsq.addr (by omega)
  have HCQ := Lib.hid hcq
  clear hb5 hz5 HIN heq hsq hcq HFS
  go_wp2_with fail
  refine HFR.out.mono ?_
  rintro e7 w7 ⟨hb7, hp⟩
  have HB57 := Lib.hid hb7
  have hz7 := hb7.size
  have q07 : w7.cell? ⟨w.heap.size, 0, none⟩ = some (.slice a n c) := by { rw [cellB hb7 _ _ (by first | (simp; done) | (simp; omega) | omega)]; all_goals (first | assumption | go_simp) }; have q17 : w7.cell? ⟨w.heap.size, 1, none⟩ = some (.slice a1 n c1) := by { rw [cellB hb7 _ _ (by first | (simp; done) | (simp; omega) | omega)]; all_goals (first | assumption | go_simp) }; have q27 : w7.cell? ⟨w.heap.size, 2, none⟩ = some (.slice a2 n2 c2) := by { rw [cellB hb7 _ _ (by first | (simp; done) | (simp; omega) | omega)]; all_goals (first | assumption | go_simp) }; have q37 : w7.cell? ⟨w.heap.size, 3, none⟩ = some (.bool g) := by { rw [cellB hb7 _ _ (by first | (simp; done) | (simp; omega) | omega)]; all_goals (first | assumption | go_simp) }; have r07 : w7.cell? ⟨w.heap.size + 1, 0, none⟩ = some (.int .i64 0) := by { rw [cellB hb7 _ _ (by first | (simp; done) | (simp; omega) | omega)]; all_goals (first | assumption | go_simp) }; have r17 : w7.cell? ⟨w.heap.size + 1, 1, none⟩ = some (.int .i64 0) := by { rw [cellB hb7 _ _ (by first | (simp; done) | (simp; omega) | omega)]; all_goals (first | assumption | go_simp) }; have f07 : w7.frozen? ⟨w.heap.size + 1, 0, none⟩ = false := by { rw [frozenB hb7 _ _ (by first | (simp; done) | (simp; omega) | omega)]; all_goals (first | assumption | go_simp) }; have f17 : w7.frozen? ⟨w.heap.size + 1, 1, none⟩ = false := by { rw [frozenB hb7 _ _ (by first | (simp; done) | (simp; omega) | omega)]; all_goals (first | assumption | go_simp) }; have l7 : w.heap.size < w7.heap.size := by { omega }; have m7 : w.heap.size + 1 < w7.heap.size := by { omega }
  have HB7 := Lib.hid (HB5.out.trans (hb7.mono HB5.out.size))
  clear hz7 q05 q15 q25 q35 r05 r15 f05 f15 l5 m5
  clear hb7 HFR
  rcases hp with ⟨hbad, rfl⟩ | ⟨hgood, a8, c8, rfl, _⟩
  · have HW := Lib.hid (show wOk s e n L = false by unfold wOk; rw [hbad]; rfl)
    clear hbad
    go_wp2
    refine bodyPost_ret (v := .tuple #[.int .i64 0, .agg #[.int .i64 0, .int .i64 0], .bool false]) (by simp [results, Tryz.results12, go_sem, *]) rfl ⟨by unfold wI wP wQ; rw [HW.out]; rfl, ?_⟩
    have := HB7.out
    (repeat' (first | (with_reducible exact Below.refl _ _) | (with_reducible assumption) | (with_reducible refine Below.drewN ?_ _) | (with_reducible refine Below.alloc ?_ ?_ _) | (with_reducible refine Below.drew ?_) | (with_reducible refine Below.setCell ?_ ?_ _) | (with_reducible refine Below.step (by assumption) ?_ ?_) | (with_reducible exact And.left (by assumption)) | go_size))
  · have HGD := Lib.hid hgood
    clear hgood
    go_wp2_with fail
    go_loopw [8, 9] (fun v i wr => ∃ k : Nat, i = .int .i64 k ∧ 1 ≤ k ∧ k ≤ n ∧ v = .int .i64 ((wst (gpN s e L) k : Nat) : Int) ∧ Hid (Below w7.heap.size w7 wr)) (fun _ i _ => n - (intOf i).toNat)
    case atStart => exact ⟨1, rfl, Nat.le_refl _, hn0, by rw [wst_one]; rfl, Lib.hid (Below.refl _ _)⟩
    case round =>
      obtain ⟨k, rfl, hk1, hk, rfl, hB⟩ := hrel
      obtain ⟨w8, rfl⟩ : ∃ w', w' = wr := ⟨wr, rfl⟩
      have hb8 := hB.out
      have hz8 := hb8.size
      have q08 : w8.cell? ⟨w.heap.size, 0, none⟩ = some (.slice a n c) := by { rw [cellB hb8 _ _ (by first | (simp; done) | (simp; omega) | omega)]; all_goals (first | assumption | go_simp) }; have q18 : w8.cell? ⟨w.heap.size, 1, none⟩ = some (.slice a1 n c1) := by { rw [cellB hb8 _ _ (by first | (simp; done) | (simp; omega) | omega)]; all_goals (first | assumption | go_simp) }; have q28 : w8.cell? ⟨w.heap.size, 2, none⟩ = some (.slice a2 n2 c2) := by { rw [cellB hb8 _ _ (by first | (simp; done) | (simp; omega) | omega)]; all_goals (first | assumption | go_simp) }; have q38 : w8.cell? ⟨w.heap.size, 3, none⟩ = some (.bool g) := by { rw [cellB hb8 _ _ (by first | (simp; done) | (simp; omega) | omega)]; all_goals (first | assumption | go_simp) }; have r08 : w8.cell? ⟨w.heap.size + 1, 0, none⟩ = some (.int .i64 0) := by { rw [cellB hb8 _ _ (by first | (simp; done) | (simp; omega) | omega)]; all_goals (first | assumption | go_simp) }; have r18 : w8.cell? ⟨w.heap.size + 1, 1, none⟩ = some (.int .i64 0) := by { rw [cellB hb8 _ _ (by first | (simp; done) | (simp; omega) | omega)]; all_goals (first | assumption | go_simp) }; have f08 : w8.frozen? ⟨w.heap.size + 1, 0, none⟩ = false := by { rw [frozenB hb8 _ _ (by first | (simp; done) | (simp; omega) | omega)]; all_goals (first | assumption | go_simp) }; have f18 : w8.frozen? ⟨w.heap.size + 1, 1, none⟩ = false := by { rw [frozenB hb8 _ _ (by first | (simp; done) | (simp; omega) | omega)]; all_goals (first | assumption | go_simp) }; have l8 : w.heap.size < w8.heap.size := by { omega }; have m8 : w.heap.size + 1 < w8.heap.size := by { omega }
      have HB8 := Lib.hid (HB7.out.trans (hb8.mono HB7.out.size))
      clear hz8 q07 q17 q27 q37 r07 r17 f07 f17 l7 m7
      have HBQ := Lib.hid (HB57.out.trans (hb8.mono HB57.out.size))
      have lb8 : bq < w8.heap.size := by have := HBQ.out.size; omega
      have hz58 : w5.heap.size ≤ w8.heap.size := HBQ.out.size
      have hWn : wst (gpN s e L) k < n := by
        have := wst_lt (gpN s e L) (show 0 < k by omega); omega
      obtain ⟨W, hW⟩ : ∃ W, wst (gpN s e L) k = W := ⟨_, rfl⟩
      rw [hW] at hWn ⊢
      have HWI := Lib.hid hW
      obtain ⟨sC, xC, nC, dC, tC, yC, mC, pC, gC0, gC1, gC2, gC3, hrC⟩ := SlN.at HCQ.out (HE.out (W) (by omega))
      rw [← cellB HBQ.out _ _ lbq] at gC0 gC1 gC2 gC3
      have HRC := Lib.hid ((hrC.below HBQ.out).mono (p' := fun b => b < w8.heap.size) (fun b hb => by omega))
      clear hrC
      obtain ⟨sD, xD, nD, dD, tD, yD, mD, pD, gD0, gD1, gD2, gD3, hrD⟩ := SlN.at HCQ.out (HE.out (W + 1) (by omega))
      rw [← cellB HBQ.out _ _ lbq] at gD0 gD1 gD2 gD3
      have HRD := Lib.hid ((hrD.below HBQ.out).mono (p' := fun b => b < w8.heap.size) (fun b hb => by omega))
      clear hrD
      have W0 : (0 : Int) ≤ (W : Int) := by omega
      have W1 : (W : Int) < (n : Int) + 1 := by omega
      have W2 : (W : Int) + 1 < (n : Int) + 1 := by omega
      have HBr := Lib.hid hB.out
      clear hb8 hW hB
      rcases Nat.lt_or_ge k n with hlt | hge
      · skip
        obtain ⟨sA, xA, nA, dA, tA, yA, mA, pA, gA0, gA1, gA2, gA3, hrA⟩ := SlN.at HCQ.out (HE.out (k) (by omega))
        rw [← cellB HBQ.out _ _ lbq] at gA0 gA1 gA2 gA3
        have HRA := Lib.hid ((hrA.below HBQ.out).mono (p' := fun b => b < w8.heap.size) (fun b hb => by omega))
        clear hrA
        obtain ⟨sB, xB, nB, dB, tB, yB, mB, pB, gB0, gB1, gB2, gB3, hrB⟩ := SlN.at HCQ.out (HE.out (k + 1) (by omega))
        rw [← cellB HBQ.out _ _ lbq] at gB0 gB1 gB2 gB3
        have HRB := Lib.hid ((hrB.below HBQ.out).mono (p' := fun b => b < w8.heap.size) (fun b hb => by omega))
        clear hrB
        have k0 : (0 : Int) ≤ (k : Int) := by omega
        have k1 : (k : Int) < (n : Int) + 1 := by omega
        have k2 : (k : Int) + 1 < (n : Int) + 1 := by omega
        have k3 : (k : Int) < (n : Int) := by omega
        have HSU := Lib.hid (wst_next HWI.out)
        have hcg := HCG.out k W
        obtain ⟨Z, hZ⟩ : ∃ Z, Z = ((vq s e L k - vq s e L (k + 1)).num * ((vq s e L W - vq s e L (W + 1)).den : Int) - (vq s e L W - vq s e L (W + 1)).num * ((vq s e L k - vq s e L (k + 1)).den : Int)).sign := ⟨_, rfl⟩
        rw [← hZ] at hcg
        have HZ := Lib.hid hZ
        have HCK := Lib.hid hcg
        clear hZ hcg
        go_wp2
        refine wp_region_laterB (B := w8.heap.size) [0, 1, 2, 3, 4, 5, 6, 7, 8, 10, 11, 12, 13, 14, 15, 16, 17, 18] [9, 19, 20, 21] (by kernel_rfl) (by kernel_rfl) ?_; simp only [List.filterMap_cons, List.filterMap_nil, List.getElem?_cons_zero, List.getElem?_cons_succ]; repeat (show wpQuiet _ _ _ _ (_ :: _) _; go_big_quiet_step (fail))
        refine wpQuiet_nil ?_
        refine wpTail_cons ?_
        go_wp2_with fail
        refine (ratioSub_any (fun b => b < w8.heap.size) _ _ (vq s e L k) (vq s e L (k + 1)) 2 2 w8.drew (HRA.out.below (Below.refl _ _).drew) (HRB.out.below (Below.refl _ _).drew) (fun b hb => by simpa using hb) (HSZ.out k (by omega)) (HSZ.out (k + 1) (by omega)) (by omega)).mono ?_
        rintro e9 w9 ⟨v9, rfl, hb9, hr9⟩
        have hb9' : Below w8.heap.size w8 w9 := (Below.refl w8.heap.size w8).drew.trans hb9
        have hz9 := hb9'.size
        have HR9 := Lib.hid (hr9.here.mono (p' := fun b => b < w9.heap.size) (fun b hb => hb.2))
        have HRC := Lib.hid ((HRC.out.below hb9').mono (p' := fun b => b < w9.heap.size) (fun b hb => by omega))
        have HRD := Lib.hid ((HRD.out.below hb9').mono (p' := fun b => b < w9.heap.size) (fun b hb => by omega))
        have HB9 := Lib.hid hb9'
        obtain ⟨sX, aX, nX, cX, tX, bX, mX, dX, rfl, _, _⟩ := hr9
        clear hb9 hb9'
        go_wp2_with fail
        refine tailL_mk HB9.out ?_
        refine wpTail_cons ?_
        go_wp2_with fail
        refine (ratioSub_any (fun b => b < w9.heap.size) _ _ (vq s e L W) (vq s e L (W + 1)) 2 2 w9 HRC.out HRD.out (fun b hb => hb) (HSZ.out W (by omega)) (HSZ.out (W + 1) (by omega)) (by omega)).mono ?_
        rintro e10 wa ⟨va, rfl, hba, hra⟩
        have hza := hba.size
        have HRa := Lib.hid (hra.here.mono (p' := fun b => b < wa.heap.size) (fun b hb => hb.2))
        have HR9 := Lib.hid ((HR9.out.below hba).mono (p' := fun b => b < wa.heap.size) (fun b hb => by omega))
        have HBa := Lib.hid (HB9.out.trans (hba.mono hz9))
        obtain ⟨sY, aY, nY, cY, tY, bY, mY, dY, rfl, _, _⟩ := hra
        clear hba
        go_wp2_with fail
        refine tailL_mk HBa.out ?_
        refine wpTail_cons ?_
        go_wp2_with fail
        have hq1 : Sz 5 (vq s e L k - vq s e L (k + 1)) := sz_sub (K := 2) (M := 2) (HSZ.out k (by omega)) (HSZ.out (k + 1) (by omega))
        have hq2 : Sz 5 (vq s e L W - vq s e L (W + 1)) := sz_sub (K := 2) (M := 2) (HSZ.out W (by omega)) (HSZ.out (W + 1) (by omega))
        have hcm := ratioCmp_any (fun b => b < wa.heap.size) _ _ (vq s e L k - vq s e L (k + 1)) (vq s e L W - vq s e L (W + 1)) 5 5 wa HR9.out HRa.out hq1 hq2 (by omega)
        have HCM := Lib.hid hcm
        clear hq1 hq2 hcm
        rw [← HZ.out] at HCM
        refine HCM.out.mono ?_
        rintro e11 wb ⟨rfl, hbb⟩
        have HBb := Lib.hid (HBa.out.trans (hbb.mono HBa.out.size))
        clear hbb HCM
        go_wp2_with fail
        refine tailL_mk HBb.out ?_
        refine wpTail_cons ?_
        go_wp2_with fail
        refine tailL_mk HBb.out ?_
        refine wpTail_nil ?_
        have HBs := Lib.hid (HBr.out.trans (HBb.out.mono HBr.out.size))
        by_cases hZ0 : 0 < Z
        · have HSV := Lib.hid (HSU.out.trans (if_pos (HCK.out.1 hZ0)))
          clear HSU HCK
          go_wp2
          go_roundw
          case rel => exact ⟨k + 1, by go_num, by omega, by omega, by rw [HSV.out], HBs⟩
          case measure => simp [intOf]; omega
        · have HSV := Lib.hid (HSU.out.trans (if_neg (fun hh => hZ0 (HCK.out.2 hh))))
          have hz1 : Z ≤ 0 := by omega
          clear hZ0 HSU HCK
          go_wp2
          go_roundw
          case rel => exact ⟨k + 1, by go_num, by omega, by omega, by rw [HSV.out], HBs⟩
          case measure => simp [intOf]; omega
      · obtain rfl : n = k := by omega
        have hfd := HFD.out W
        have hWF : wF s e n L = low (nu s e L W - nu s e L (W + 1)) (dd s e L L) := by unfold wF; rw [HWI.out]; rfl
        rw [← hWF] at hfd
        have hsm := small_fq (vq s e L W - vq s e L (W + 1))
        rw [hfd] at hsm
        obtain ⟨G, hG⟩ : ∃ G, G = smallQ (vq s e L W - vq s e L (W + 1)) := ⟨_, rfl⟩
        obtain ⟨P, hP⟩ : ∃ P, P = (if smallQ (vq s e L W - vq s e L (W + 1)) = true then (vq s e L W - vq s e L (W + 1)).num else 0) := ⟨_, rfl⟩
        obtain ⟨Q, hQ⟩ : ∃ Q : Int, Q = (if smallQ (vq s e L W - vq s e L (W + 1)) = true then ((vq s e L W - vq s e L (W + 1)).den : Int) else 0) := ⟨_, rfl⟩
        have HGG := Lib.hid (And.intro hG (And.intro hP hQ))
        have HOK := Lib.hid (show wOk s e n L = G by unfold wOk; rw [HGD.out, hsm, hG]; rfl)
        have HWQ := Lib.hid (show G = true → wI s e n L = W ∧ wP s e n L = P ∧ wQ s e n L = Q by
          intro hg
          have h1 : wOk s e n L = true := HOK.out.trans hg
          have h2 : smallQ (vq s e L W - vq s e L (W + 1)) = true := hG.symm.trans hg
          unfold wI wP wQ
          rw [if_pos h1, if_pos h1, if_pos h1, hP, hQ, if_pos h2, if_pos h2, ← hfd, HWI.out]
          exact ⟨rfl, rfl, rfl⟩)
        have HWN := Lib.hid (show G = false → wI s e n L = 0 ∧ wP s e n L = 0 ∧ wQ s e n L = 0 by
          intro hg
          have h1 : wOk s e n L = false := HOK.out.trans hg
          unfold wI wP wQ
          rw [h1]; exact ⟨rfl, rfl, rfl⟩)
        clear hfd hWF hsm hG hP hQ
        go_wp2_with fail
        go_cut [10, 11] from 52 to 65 (fun v10 v11 wx => ∃ X : Nat, v10 = .pointer (some ⟨X, 0, none⟩) ∧ v11 = .bool G ∧ wx.cell? ⟨X, 0, none⟩ = some (.int .i64 P) ∧ wx.cell? ⟨X, 1, none⟩ = some (.int .i64 Q) ∧ X < wx.heap.size ∧ Hid (Below w8.heap.size w8 wx))
        case first =>
          have HN := Lib.hid (Below.refl w8.heap.size w8).drew
          refine wp_region_laterT (B := w8.heap.size) (.head 0 (.head 1 (.head 2 (.head 3 (.head 4 (.head 5 (.head 6 (.head 7 (.head 8 (.two 9 (.two 10 (.head 11 (.head 12 (.head 13 (.one 14 (.one 15 (.head 16 .done)))))) 14 (.one 10 (.head 11 (.head 12 (.head 13 (.one 15 (.head 16 .done))))))) 14 (.one 9 (.one 10 (.head 11 (.head 12 (.head 13 (.one 15 (.head 16 .done))))))))))))))))) (by kernel_rfl) (by kernel_rfl) ?_
          repeat (refine tree_head rfl ?_; (show wpQuiet _ _ _ _ (_ :: _) _; go_big_quiet_step (fail)); refine wpQuiet_nil ?_)
          refine tree_two rfl rfl ?_ ?_
          · go_wp2_with fail
            refine (ratioSub_any (fun b => b < w8.drew.heap.size) _ _ (vq s e L W) (vq s e L (W + 1)) 2 2 _ ((HRC.out.below HN.out).mono (fun b hb => by have := HN.out.size; (try simp only [World.size_drew] at *); omega)) ((HRD.out.below HN.out).mono (fun b hb => by have := HN.out.size; (try simp only [World.size_drew] at *); omega)) (fun b hb => hb) (HSZ.out W (by omega)) (HSZ.out (W + 1) (by omega)) (by omega)).mono ?_
            rintro ex wx1 ⟨vS, rfl, hbx, hS⟩
            have HS := Lib.hid hS.here
            obtain ⟨sS, aS, nS, cS, tS, bS, mS, dS, rfl, _, _⟩ := hS
            have hzx := hbx.size
            have HN := Lib.hid (HN.out.trans (hbx.mono HN.out.size))
            clear hbx
            go_wp2_with fail
            refine tailL_mk HN.out ?_
            repeat (refine tree_head rfl ?_; (show wpQuiet _ _ _ _ (_ :: _) _; go_big_quiet_step (fail)); refine wpQuiet_nil ?_)
            refine tree_two rfl rfl ?_ ?_
            · go_wp2_with fail
              refine (ratioFrac_v _ _ _ _ HS.out).mono ?_
              rw [← HGG.out.2.1, ← HGG.out.2.2, ← HGG.out.1]
              rintro ex wx2 ⟨rfl, hbx⟩
              have hzx := hbx.size
              have HN := Lib.hid (HN.out.trans (hbx.mono HN.out.size))
              have HS := Lib.hid (HS.out.below hbx)
              clear hbx
              go_wp2_with fail
              refine tailL_mk HN.out ?_
              repeat (refine tree_head rfl ?_; (show wpQuiet _ _ _ _ (_ :: _) _; go_big_quiet_step (fail)); refine wpQuiet_nil ?_)
              refine tree_one rfl ?_
              go_wp2_with fail
              obtain ⟨X9, hX9⟩ : ∃ X, X = wx2.heap.size := ⟨_, rfl⟩
              have hNX : w8.heap.size ≤ X9 := by rw [hX9]; exact HN.out.size
              have hx9 : (wx2.alloc (Obj.cells #[.int .i64 0, .int .i64 0] 28)).heap[X9]? = some (.cells #[.int .i64 0, .int .i64 0] 28) := by rw [hX9]; exact heap_alloc_new _ _
              have l9 : X9 < (wx2.alloc (Obj.cells #[.int .i64 0, .int .i64 0] 28)).heap.size := by rw [hX9]; simp
              have hs9 : (wx2.alloc (Obj.cells #[.int .i64 0, .int .i64 0] 28)).heap.size = wx2.heap.size + 1 := by simp
              have hbx : Below wx2.heap.size wx2 (wx2.alloc (Obj.cells #[.int .i64 0, .int .i64 0] 28)) := by (repeat' (first | (with_reducible exact Below.refl _ _) | (with_reducible assumption) | (with_reducible refine Below.drewN ?_ _) | (with_reducible refine Below.alloc ?_ ?_ _) | (with_reducible refine Below.drew ?_) | (with_reducible refine Below.setCell ?_ ?_ _) | (with_reducible refine Below.step (by assumption) ?_ ?_) | (with_reducible exact And.left (by assumption)) | go_size))
              try simp only [← hX9]
              generalize (wx2.alloc (Obj.cells #[.int .i64 0, .int .i64 0] 28)) = wx3 at *
              have HX9 := Lib.hid (And.intro hX9 hs9)
              have HN := Lib.hid (HN.out.trans (hbx.mono HN.out.size))
              have HS := Lib.hid (HS.out.below hbx)
              clear hbx hX9 hs9
              refine tailL_mk HN.out ?_
              repeat (refine tree_head rfl ?_; (show wpQuiet _ _ _ _ (_ :: _) _; go_big_quiet_step (fail)); refine wpQuiet_nil ?_)
              refine tree_one rfl ?_
              have c90 := cell_of_row _ _ 0 _ _ _ hx9
              have f90 := frozen_of_row _ _ 0 _ _ hx9
              have c91 := cell_of_row _ _ 1 _ _ _ hx9
              have f91 := frozen_of_row _ _ 1 _ _ hx9
              simp only [List.getElem?_toArray, List.getElem?_cons_zero, List.getElem?_cons_succ] at c90 c91
              go_wp2_with fail
              have HN := Lib.hid (show Below w8.heap.size w8 ((wx3.setCell ⟨X9, 0, none⟩ (.int .i64 P)).setCell ⟨X9, 1, none⟩ (.int .i64 Q)) from Below.setCell (Below.setCell (HN.out) hNX _) hNX _)
              have hx9 : ((wx3.setCell ⟨X9, 0, none⟩ (.int .i64 P)).setCell ⟨X9, 1, none⟩ (.int .i64 Q)).heap[X9]? = some (.cells #[.int .i64 P, .int .i64 Q] 28) := blk_set (blk_set (hx9) 0 (.int .i64 P)) 1 (.int .i64 Q)
              refine tailL_mk HN.out ?_
              repeat (refine tree_head rfl ?_; (show wpQuiet _ _ _ _ (_ :: _) _; go_big_quiet_step (fail)); refine wpQuiet_nil ?_)
              refine tree_done ?_
              go_wp2_with fail
              go_meet
              case rel => exact ⟨X9, rfl, rfl, by go_simp, by go_simp, by simpa using l9, HN⟩
            · go_wp2_with fail
              obtain ⟨X9, hX9⟩ : ∃ X, X = wx1.heap.size := ⟨_, rfl⟩
              have hNX : w8.heap.size ≤ X9 := by rw [hX9]; exact HN.out.size
              have hx9 : (wx1.alloc (Obj.cells #[.int .i64 0, .int .i64 0] 28)).heap[X9]? = some (.cells #[.int .i64 0, .int .i64 0] 28) := by rw [hX9]; exact heap_alloc_new _ _
              have l9 : X9 < (wx1.alloc (Obj.cells #[.int .i64 0, .int .i64 0] 28)).heap.size := by rw [hX9]; simp
              have hs9 : (wx1.alloc (Obj.cells #[.int .i64 0, .int .i64 0] 28)).heap.size = wx1.heap.size + 1 := by simp
              have hbx : Below wx1.heap.size wx1 (wx1.alloc (Obj.cells #[.int .i64 0, .int .i64 0] 28)) := by (repeat' (first | (with_reducible exact Below.refl _ _) | (with_reducible assumption) | (with_reducible refine Below.drewN ?_ _) | (with_reducible refine Below.alloc ?_ ?_ _) | (with_reducible refine Below.drew ?_) | (with_reducible refine Below.setCell ?_ ?_ _) | (with_reducible refine Below.step (by assumption) ?_ ?_) | (with_reducible exact And.left (by assumption)) | go_size))
              try simp only [← hX9]
              generalize (wx1.alloc (Obj.cells #[.int .i64 0, .int .i64 0] 28)) = wx5 at *
              have HX9 := Lib.hid (And.intro hX9 hs9)
              have HN := Lib.hid (HN.out.trans (hbx.mono HN.out.size))
              have HS := Lib.hid (HS.out.below hbx)
              clear hbx hX9 hs9
              refine tailL_mk HN.out ?_
              repeat (refine tree_head rfl ?_; (show wpQuiet _ _ _ _ (_ :: _) _; go_big_quiet_step (fail)); refine wpQuiet_nil ?_)
              refine tree_one rfl ?_
              go_wp2_with fail
              refine (ratioFrac_v _ _ _ _ HS.out).mono ?_
              rw [← HGG.out.2.1, ← HGG.out.2.2, ← HGG.out.1]
              rintro ex wx6 ⟨rfl, hbx⟩
              have hzx := hbx.size
              have HN := Lib.hid (HN.out.trans (hbx.mono HN.out.size))
              have HS := Lib.hid (HS.out.below hbx)
              have hx9 := (hbx.block X9 l9).trans hx9
              have l9 := Nat.lt_of_lt_of_le l9 hbx.size
              clear hbx
              go_wp2_with fail
              refine tailL_mk HN.out ?_
              repeat (refine tree_head rfl ?_; (show wpQuiet _ _ _ _ (_ :: _) _; go_big_quiet_step (fail)); refine wpQuiet_nil ?_)
              refine tree_one rfl ?_
              have c90 := cell_of_row _ _ 0 _ _ _ hx9
              have f90 := frozen_of_row _ _ 0 _ _ hx9
              have c91 := cell_of_row _ _ 1 _ _ _ hx9
              have f91 := frozen_of_row _ _ 1 _ _ hx9
              simp only [List.getElem?_toArray, List.getElem?_cons_zero, List.getElem?_cons_succ] at c90 c91
              go_wp2_with fail
              have HN := Lib.hid (show Below w8.heap.size w8 ((wx6.setCell ⟨X9, 0, none⟩ (.int .i64 P)).setCell ⟨X9, 1, none⟩ (.int .i64 Q)) from Below.setCell (Below.setCell (HN.out) hNX _) hNX _)
              have hx9 : ((wx6.setCell ⟨X9, 0, none⟩ (.int .i64 P)).setCell ⟨X9, 1, none⟩ (.int .i64 Q)).heap[X9]? = some (.cells #[.int .i64 P, .int .i64 Q] 28) := blk_set (blk_set (hx9) 0 (.int .i64 P)) 1 (.int .i64 Q)
              refine tailL_mk HN.out ?_
              repeat (refine tree_head rfl ?_; (show wpQuiet _ _ _ _ (_ :: _) _; go_big_quiet_step (fail)); refine wpQuiet_nil ?_)
              refine tree_done ?_
              go_wp2_with fail
              go_meet
              case rel => exact ⟨X9, rfl, rfl, by go_simp, by go_simp, by simpa using l9, HN⟩
          · go_wp2_with fail
            obtain ⟨X9, hX9⟩ : ∃ X, X = w8.heap.size := ⟨_, rfl⟩
            have hNX : w8.heap.size ≤ X9 := by rw [hX9]; exact HN.out.size
            have hx9 : (w8.alloc (Obj.cells #[.int .i64 0, .int .i64 0] 28)).drew.heap[X9]? = some (.cells #[.int .i64 0, .int .i64 0] 28) := by rw [hX9]; exact heap_alloc_new _ _
            have l9 : X9 < (w8.alloc (Obj.cells #[.int .i64 0, .int .i64 0] 28)).drew.heap.size := by rw [hX9]; simp
            have hs9 : (w8.alloc (Obj.cells #[.int .i64 0, .int .i64 0] 28)).drew.heap.size = w8.heap.size + 1 := by simp
            have hbx : Below w8.heap.size w8 (w8.alloc (Obj.cells #[.int .i64 0, .int .i64 0] 28)).drew := by (repeat' (first | (with_reducible exact Below.refl _ _) | (with_reducible assumption) | (with_reducible refine Below.drewN ?_ _) | (with_reducible refine Below.alloc ?_ ?_ _) | (with_reducible refine Below.drew ?_) | (with_reducible refine Below.setCell ?_ ?_ _) | (with_reducible refine Below.step (by assumption) ?_ ?_) | (with_reducible exact And.left (by assumption)) | go_size))
            try simp only [← hX9]
            generalize (w8.alloc (Obj.cells #[.int .i64 0, .int .i64 0] 28)).drew = wx8 at *
            have HX9 := Lib.hid (And.intro hX9 hs9)
            have HN := Lib.hid hbx
            clear hbx hX9 hs9
            refine tailL_mk HN.out ?_
            repeat (refine tree_head rfl ?_; (show wpQuiet _ _ _ _ (_ :: _) _; go_big_quiet_step (fail)); refine wpQuiet_nil ?_)
            refine tree_one rfl ?_
            go_wp2_with fail
            refine (ratioSub_any (fun b => b < wx8.heap.size) _ _ (vq s e L W) (vq s e L (W + 1)) 2 2 _ ((HRC.out.below HN.out).mono (fun b hb => by have := HN.out.size; (try simp only [World.size_drew] at *); omega)) ((HRD.out.below HN.out).mono (fun b hb => by have := HN.out.size; (try simp only [World.size_drew] at *); omega)) (fun b hb => hb) (HSZ.out W (by omega)) (HSZ.out (W + 1) (by omega)) (by omega)).mono ?_
            rintro ex wx9 ⟨vS, rfl, hbx, hS⟩
            have HS := Lib.hid hS.here
            obtain ⟨sS, aS, nS, cS, tS, bS, mS, dS, rfl, _, _⟩ := hS
            have hzx := hbx.size
            have HN := Lib.hid (HN.out.trans (hbx.mono HN.out.size))
            have hx9 := (hbx.block X9 l9).trans hx9
            have l9 := Nat.lt_of_lt_of_le l9 hbx.size
            clear hbx
            go_wp2_with fail
            refine tailL_mk HN.out ?_
            repeat (refine tree_head rfl ?_; (show wpQuiet _ _ _ _ (_ :: _) _; go_big_quiet_step (fail)); refine wpQuiet_nil ?_)
            refine tree_one rfl ?_
            go_wp2_with fail
            refine (ratioFrac_v _ _ _ _ HS.out).mono ?_
            rw [← HGG.out.2.1, ← HGG.out.2.2, ← HGG.out.1]
            rintro ex wx10 ⟨rfl, hbx⟩
            have hzx := hbx.size
            have HN := Lib.hid (HN.out.trans (hbx.mono HN.out.size))
            have HS := Lib.hid (HS.out.below hbx)
            have hx9 := (hbx.block X9 l9).trans hx9
            have l9 := Nat.lt_of_lt_of_le l9 hbx.size
            clear hbx
            go_wp2_with fail
            refine tailL_mk HN.out ?_
            repeat (refine tree_head rfl ?_; (show wpQuiet _ _ _ _ (_ :: _) _; go_big_quiet_step (fail)); refine wpQuiet_nil ?_)
            refine tree_one rfl ?_
            have c90 := cell_of_row _ _ 0 _ _ _ hx9
            have f90 := frozen_of_row _ _ 0 _ _ hx9
            have c91 := cell_of_row _ _ 1 _ _ _ hx9
            have f91 := frozen_of_row _ _ 1 _ _ hx9
            simp only [List.getElem?_toArray, List.getElem?_cons_zero, List.getElem?_cons_succ] at c90 c91
            go_wp2_with fail
            have HN := Lib.hid (show Below w8.heap.size w8 ((wx10.setCell ⟨X9, 0, none⟩ (.int .i64 P)).setCell ⟨X9, 1, none⟩ (.int .i64 Q)) from Below.setCell (Below.setCell (HN.out) hNX _) hNX _)
            have hx9 : ((wx10.setCell ⟨X9, 0, none⟩ (.int .i64 P)).setCell ⟨X9, 1, none⟩ (.int .i64 Q)).heap[X9]? = some (.cells #[.int .i64 P, .int .i64 Q] 28) := blk_set (blk_set (hx9) 0 (.int .i64 P)) 1 (.int .i64 Q)
            refine tailL_mk HN.out ?_
            repeat (refine tree_head rfl ?_; (show wpQuiet _ _ _ _ (_ :: _) _; go_big_quiet_step (fail)); refine wpQuiet_nil ?_)
            refine tree_done ?_
            go_wp2_with fail
            go_meet
            case rel => exact ⟨X9, rfl, rfl, by go_simp, by go_simp, by simpa using l9, HN⟩
        case rest =>
          obtain ⟨w9, rfl⟩ : ∃ w', w' = wc := ⟨wc, rfl⟩
          obtain ⟨X, rfl, rfl, x0c, x1c, lX, hN⟩ := hcut
          have hb9 := hN.out
          have hz9 := hb9.size
          have q09 : w9.cell? ⟨w.heap.size, 0, none⟩ = some (.slice a n c) := by { rw [cellB hb9 _ _ (by first | (simp; done) | (simp; omega) | omega)]; all_goals (first | assumption | go_simp) }; have q19 : w9.cell? ⟨w.heap.size, 1, none⟩ = some (.slice a1 n c1) := by { rw [cellB hb9 _ _ (by first | (simp; done) | (simp; omega) | omega)]; all_goals (first | assumption | go_simp) }; have q29 : w9.cell? ⟨w.heap.size, 2, none⟩ = some (.slice a2 n2 c2) := by { rw [cellB hb9 _ _ (by first | (simp; done) | (simp; omega) | omega)]; all_goals (first | assumption | go_simp) }; have q39 : w9.cell? ⟨w.heap.size, 3, none⟩ = some (.bool g) := by { rw [cellB hb9 _ _ (by first | (simp; done) | (simp; omega) | omega)]; all_goals (first | assumption | go_simp) }; have r09 : w9.cell? ⟨w.heap.size + 1, 0, none⟩ = some (.int .i64 0) := by { rw [cellB hb9 _ _ (by first | (simp; done) | (simp; omega) | omega)]; all_goals (first | assumption | go_simp) }; have r19 : w9.cell? ⟨w.heap.size + 1, 1, none⟩ = some (.int .i64 0) := by { rw [cellB hb9 _ _ (by first | (simp; done) | (simp; omega) | omega)]; all_goals (first | assumption | go_simp) }; have f09 : w9.frozen? ⟨w.heap.size + 1, 0, none⟩ = false := by { rw [frozenB hb9 _ _ (by first | (simp; done) | (simp; omega) | omega)]; all_goals (first | assumption | go_simp) }; have f19 : w9.frozen? ⟨w.heap.size + 1, 1, none⟩ = false := by { rw [frozenB hb9 _ _ (by first | (simp; done) | (simp; omega) | omega)]; all_goals (first | assumption | go_simp) }; have l9 : w.heap.size < w9.heap.size := by { omega }; have m9 : w.heap.size + 1 < w9.heap.size := by { omega }
          have HB9 := Lib.hid (HB8.out.trans (hb9.mono HB8.out.size))
          clear hz9 q08 q18 q28 q38 r08 r18 f08 f18 l8 m8
          clear hb9 hN
          cases G
          · obtain ⟨e1, e2, e3⟩ := HWN.out rfl
            have HEE := Lib.hid (And.intro e1 (And.intro e2 e3))
            clear e1 e2 e3
            go_wp2
            refine bodyPost_ret (v := .tuple #[.int .i64 0, .agg #[.int .i64 0, .int .i64 0], .bool false]) (by simp [results, Tryz.results12, go_sem, *]) rfl ⟨by rw [HEE.out.1, HEE.out.2.1, HEE.out.2.2, HOK.out], ?_⟩
            have := HB9.out
            (repeat' (first | (with_reducible exact Below.refl _ _) | (with_reducible assumption) | (with_reducible refine Below.drewN ?_ _) | (with_reducible refine Below.alloc ?_ ?_ _) | (with_reducible refine Below.drew ?_) | (with_reducible refine Below.setCell ?_ ?_ _) | (with_reducible refine Below.step (by assumption) ?_ ?_) | (with_reducible exact And.left (by assumption)) | go_size))
          · obtain ⟨e1, e2, e3⟩ := HWQ.out rfl
            have HEE := Lib.hid (And.intro e1 (And.intro e2 e3))
            clear e1 e2 e3
            go_wp2
            refine wp_region_laterY (B := w9.heap.size) [0, 1, 2] [] [3, 4] (by kernel_rfl) (by kernel_rfl) ?_; simp only [List.filterMap_cons, List.filterMap_nil, List.getElem?_cons_zero, List.getElem?_cons_succ]; repeat (show wpQuiet _ _ _ _ (_ :: _) _; go_big_quiet_step (fail))
            refine wpQuiet_nil ?_
            refine tailY_ends ?_
            refine ends_cons ?_
            go_wp2_with fail
            refine tailZ_end ?_
            refine ends_cons ?_
            go_wp2_with fail
            refine tailZ_end ?_
            refine ends_nil ?_
            go_wp2
            refine bodyPost_ret (v := .tuple #[.int .i64 W, .agg #[.int .i64 P, .int .i64 Q], .bool true]) (by simp [results, Tryz.results12, go_sem, *]) rfl ⟨by rw [HEE.out.1, HEE.out.2.1, HEE.out.2.2, HOK.out], ?_⟩
            have := HB9.out
            (repeat' (first | (with_reducible exact Below.refl _ _) | (with_reducible assumption) | (with_reducible refine Below.drewN ?_ _) | (with_reducible refine Below.alloc ?_ ?_ _) | (with_reducible refine Below.drew ?_) | (with_reducible refine Below.setCell ?_ ?_ _) | (with_reducible refine Below.step (by assumption) ?_ ?_) | (with_reducible exact And.left (by assumption)) | go_size))
end Go.Proofs.YtbjgklifmillgaaGreat
