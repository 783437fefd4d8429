import Derived.Test.YtbjgklifmillgaaGreatMCk
import Derived.Test.YtbjgklifmillgaaGreatMSch
import Derived.Test.YtbjgklifmillgaaGreatRatB
import Derived.Test.YtbjgklifmillgaaGreatSIniLib
/- The acceptance of voltages, of the reference. -/
namespace Go.Proofs.YtbjgklifmillgaaGreat
open Go.RowKit
set_option linter.unusedVariables false

/-- What a node's equation says in the reference, from its walk. -/
def holdR (s e : List Int) (u : List (Int × Int)) (n j : Nat) : Bool := (rsm s e u n j).num.sign == 0
theorem holdR_eq (s e : List Int) (u : List (Int × Int)) (n j : Nat) : holdR s e u n j = decide (rsm s e u n j = 0) := by
  unfold holdR
  rw [Bool.eq_iff_iff]
  simp only [beq_iff_eq, decide_eq_true_eq]
  exact (sign_num _).1
set_option maxHeartbeats 4000000 in
set_option maxRecDepth 100000 in
theorem rcheckInitial_full (s e : List Int) (u : List (Int × Int)) (a a1 a2 a3 : Option Addr) (n c c1 n2 c2 m c3 L : Nat) (g : Bool) (w : World) (hs : IntsR w a n s) (he : IntsR w a1 n e) (hu : PairsR w a3 m u)
    (h : Lad s e g n L) (hm : m = n + 1) (hub : ∀ i, i < m → -9223372036854775808 ≤ (gp u i).1 ∧ (gp u i).1 ≤ 9223372036854775807 ∧ (gp u i).2 ≤ 9223372036854775807) :
    Calls Tryz.prog 17 #[.agg #[.slice a n c, .slice a1 n c1, .slice a2 n2 c2, .bool g], .slice a3 m c3] w fun e' w' => Below w.heap.size w w' ∧ ∃ i E, e' = .returned (.tuple #[.int .i64 i, .int .i64 E]) ∧ CkPost (fun j => frE (gp u j).1 (gp u j).2) (hold s e u g n) m i E := by
  subst hm
  have hn0 := h.n0
  have hn6 := h.n6
  have HLD := Lib.hid h
  have HIN := Lib.hid (fun (v : World) (hb : Below w.heap.size w v) => rinitial_any s e a a1 a2 n c c1 n2 c2 L g v (hs.below hb) (he.below hb) h)
  have HFE := Lib.hid (fun (i : Nat) (hi : i < n + 1) (v : World) => rfracErr_all (gp u i).1 (gp u i).2 v (hub i hi).1 (hub i hi).2.1 (hub i hi).2.2)
  obtain ⟨bu, ou, rfl, lbu0, hcu⟩ := hu.addr (by omega)
  obtain ⟨bs, os, rfl, lbs0, hcs⟩ := hs.addr (by omega)
  obtain ⟨be, oe, rfl, lbe0, hce⟩ := he.addr (by omega)
  have HCU := Lib.hid hcu
  have HCS := Lib.hid hcs
  have HCE := Lib.hid hce
  clear hs he hu h hub hcu hcs hce
  go_enter Tryz.func17, Tryz.ntmps17
  go_wp2_with fail
  refine (HIN.out _ (by (repeat' (first | (with_reducible exact Below.refl _ _) | (with_reducible assumption) | (with_reducible refine Below.drewN ?_ _) | (with_reducible refine Below.alloc ?_ ?_ _) | (with_reducible refine Below.drew ?_) | (with_reducible refine Below.setCell ?_ ?_ _) | (with_reducible refine Below.step (by assumption) ?_ ?_) | (with_reducible exact And.left (by assumption)) | go_size)))).mono ?_
  rintro e5 w5 ⟨aq, cq, rfl, hb5, ys, hsq, heq⟩
  have hz5 := hb5.size
  simp only [World.size_alloc] at hz5
  have q05 : w5.cell? ⟨w.heap.size, 0, none⟩ = some (.slice (some ⟨bs, os, none⟩) n c) := by { rw [cellB hb5 _ _ (by first | (simp; done) | (simp; omega) | omega)]; all_goals (first | assumption | go_simp) }; have q15 : w5.cell? ⟨w.heap.size, 1, none⟩ = some (.slice (some ⟨be, oe, none⟩) n c1) := by { rw [cellB hb5 _ _ (by first | (simp; done) | (simp; omega) | omega)]; all_goals (first | assumption | go_simp) }; have q25 : w5.cell? ⟨w.heap.size, 2, none⟩ = some (.slice a2 n2 c2) := by { rw [cellB hb5 _ _ (by first | (simp; done) | (simp; omega) | omega)]; all_goals (first | assumption | go_simp) }; have q35 : w5.cell? ⟨w.heap.size, 3, none⟩ = some (.bool g) := by { rw [cellB hb5 _ _ (by first | (simp; done) | (simp; omega) | omega)]; all_goals (first | assumption | go_simp) }; have l5 : w.heap.size < w5.heap.size := by { omega }
  have HB5 := Lib.hid (show Below w.heap.size w w5 by (repeat' (first | (with_reducible exact Below.refl _ _) | (with_reducible assumption) | (with_reducible refine Below.drewN ?_ _) | (with_reducible refine Below.alloc ?_ ?_ _) | (with_reducible refine Below.drew ?_) | (with_reducible refine Below.setCell ?_ ?_ _) | (with_reducible refine Below.step (by assumption) ?_ ?_) | (with_reducible exact And.left (by assumption)) | go_size)))
  have hne : ((n : Int) + 1 != (n : Int) + 1) = false := by simp
  clear hb5 hz5 HIN hsq heq
  go_wp2_with fail
  go_loopw [7] (fun i wr => ∃ k : Nat, i = .int .i64 k ∧ k ≤ n + 1 ∧ Hid (∀ i, i < k → frE (gp u i).1 (gp u i).2 = 0) ∧ Hid (Below w5.heap.size w5 wr)) (fun i _ => n + 1 - (intOf i).toNat)
  case atStart => exact ⟨0, rfl, Nat.zero_le _, Lib.hid (fun i hi => by omega), Lib.hid (Below.refl _ _)⟩
  case round =>
    obtain ⟨k, rfl, hk, hFz, hBr⟩ := hrel
    obtain ⟨w6, rfl⟩ : ∃ w', w' = wr := ⟨wr, rfl⟩
    have hz6 := hBr.out.size
    have HB56 := Lib.hid hBr.out
    have HB6 := Lib.hid (HB5.out.trans (hBr.out.mono HB5.out.size))
    have HFZ := Lib.hid hFz.out
    clear hBr hFz
    rcases Nat.lt_or_ge k (n + 1) with hlt | hge
    · obtain ⟨P, hP⟩ : ∃ P, P = (gp u k).1 := ⟨_, rfl⟩
      obtain ⟨Q, hQ⟩ : ∃ P, P = (gp u k).2 := ⟨_, rfl⟩
      have cP : w6.cell? ⟨bu, ou + k * 2, none⟩ = some (.int .i64 P) := by rw [cellB HB6.out _ _ lbu0, hP]; exact (HCU.out k hlt).1
      have cQ : w6.cell? ⟨bu, ou + k * 2 + 1, none⟩ = some (.int .i64 Q) := by rw [cellB HB6.out _ _ lbu0, hQ]; exact (HCU.out k hlt).2
      have hfe := HFE.out k hlt
      rw [← hP, ← hQ] at hfe
      obtain ⟨F, hF⟩ : ∃ F, F = frE P Q := ⟨_, rfl⟩
      rw [← hF] at hfe
      have HFK := Lib.hid hfe
      have HFF := Lib.hid (show F = frE (gp u k).1 (gp u k).2 by rw [hF, hP, hQ])
      have i0 : (0 : Int) ≤ (k : Int) := by omega
      have i1 : (k : Int) < (n : Int) + 1 := by omega
      clear hP hQ hfe hF
      by_cases hF0 : F = 0
      · subst hF0
        go_wp2_with fail
        refine (HFK.out _).mono ?_
        rintro e8 w8 ⟨rfl, hb8⟩
        have HB8 := Lib.hid (HB56.out.trans (hb8.mono hz6))
        clear hb8
        go_wp2
        go_roundw
        case rel => exact ⟨k + 1, by go_num, by omega, Lib.hid (fun i hi => by
          rcases Nat.lt_or_ge i k with h | h
          · exact HFZ.out i h
          · rw [show i = k by omega]; exact HFF.out.symm), HB8⟩
        case measure => simp [intOf]; omega
      · have hF1 : (F != 0) = true := by simpa using hF0
        have HF0 := Lib.hid hF0
        clear hF0
        go_wp2_with fail
        refine (HFK.out _).mono ?_
        rintro e8 w8 ⟨rfl, hb8⟩
        have HB8 := Lib.hid (HB6.out.trans (hb8.mono HB6.out.size))
        clear hb8
        go_wp2
        go_ret2
        exact ⟨HB8.out, _, _, rfl, .inl ⟨k, hlt, HFZ.out, fun e0 => HF0.out (HFF.out.trans e0), rfl, HFF.out⟩⟩
    · obtain rfl : k = n + 1 := by omega
      have HOK := Lib.hid (fun i (hi : i < n + 1) => frE_ok (HFZ.out i hi))
      have q06 : w6.cell? ⟨w.heap.size, 0, none⟩ = some (.slice (some ⟨bs, os, none⟩) n c) := by rw [cellB HB56.out _ _ l5]; exact q05
      have q16 : w6.cell? ⟨w.heap.size, 1, none⟩ = some (.slice (some ⟨be, oe, none⟩) n c1) := by rw [cellB HB56.out _ _ l5]; exact q15
      have q36 : w6.cell? ⟨w.heap.size, 3, none⟩ = some (.bool g) := by rw [cellB HB56.out _ _ l5]; exact q35
      have l6 : w.heap.size < w6.heap.size := by omega
      clear q05 q15 q25 q35 HB56 HFE
      go_wp2
      go_loopw [10] (fun i wr => ∃ k : Nat, i = .int .i64 k ∧ k ≤ n + 1 ∧ Hid (∀ i, i < k → hold s e u g n i = true) ∧ Hid (Below w6.heap.size w6 wr)) (fun i _ => n + 1 - (intOf i).toNat)
      case atStart => exact ⟨0, rfl, Nat.zero_le _, Lib.hid (fun i hi => by omega), Lib.hid (Below.refl _ _)⟩
      case round =>
        obtain ⟨k, rfl, hk2, hHo, hBr⟩ := hrel
        obtain ⟨w8, rfl⟩ : ∃ w', w' = wr := ⟨wr, rfl⟩
        have hb8 := hBr.out
        have hz8 := hb8.size
        have q08 : w8.cell? ⟨w.heap.size, 0, none⟩ = some (.slice (some ⟨bs, os, none⟩) n c) := by { rw [cellB hb8 _ _ (by first | (simp; done) | (simp; omega) | omega)]; all_goals (first | assumption | go_simp) }; have q18 : w8.cell? ⟨w.heap.size, 1, none⟩ = some (.slice (some ⟨be, oe, none⟩) n c1) := by { rw [cellB hb8 _ _ (by first | (simp; done) | (simp; omega) | omega)]; all_goals (first | assumption | go_simp) }; have q38 : w8.cell? ⟨w.heap.size, 3, none⟩ = some (.bool g) := by { rw [cellB hb8 _ _ (by first | (simp; done) | (simp; omega) | omega)]; all_goals (first | assumption | go_simp) }; have l8 : w.heap.size < w8.heap.size := by { omega }
        have HB68 := Lib.hid hb8
        have HB8 := Lib.hid (HB6.out.trans (hb8.mono HB6.out.size))
        have HHO := Lib.hid hHo.out
        have lbu : bu < w8.heap.size := by have := HB8.out.size; omega
        have lbs : bs < w8.heap.size := by have := HB8.out.size; omega
        have lbe : be < w8.heap.size := by have := HB8.out.size; omega
        clear hb8 hBr hHo
        rcases Nat.lt_or_ge k (n + 1) with hlt | hge
        · obtain ⟨H, hH⟩ : ∃ H, H = hold s e u g n k := ⟨_, rfl⟩
          have HH := Lib.hid hH
          have i0 : (0 : Int) ≤ (k : Int) := by omega
          have i1 : (k : Int) ≤ (n : Int) := by omega
          clear hH
          go_upto_if 44 with fail
          go_cut [11] from 44 to 124 (fun v wx => v = .bool H ∧ Hid (Below w8.heap.size w8 wx))
          case first =>
            by_cases hk0 : k = 0
            · have HV := Lib.hid (show H = ((gp u 0).1 == 1 && (gp u 0).2 == 1) by rw [HH.out, hk0]; unfold hold; rw [if_pos rfl])
              have cP : w8.cell? ⟨bu, ou, none⟩ = some (.int .i64 (gp u 0).1) := by rw [cellB HB8.out _ _ lbu0]; simpa using (HCU.out 0 (by omega)).1
              have cQ : w8.cell? ⟨bu, ou + 1, none⟩ = some (.int .i64 (gp u 0).2) := by rw [cellB HB8.out _ _ lbu0]; simpa using (HCU.out 0 (by omega)).2
              generalize (gp u 0).1 = P at *
              generalize (gp u 0).2 = Q at *
              have t0 : ((k : Int) == 0) = true := by simp; omega
              have HK0 := Lib.hid hk0
              clear hk0
              cases hx : (P == 1) <;> cases hy : (Q == 1)
              all_goals
                go_wp2_with fail
                refine later_all (by kernel_rfl) (by kernel_rfl) ?_; repeat go_big_quiet_step(refine calls_later (whole_any 1 _))
                refine wpQuiet_nil ?_; intro w9 hb9
                go_wp2_with fail
                go_meet
                case rel => exact ⟨by rw [HV.out, hx, hy]; rfl, Lib.hid hb9⟩
            · obtain ⟨j, rfl⟩ : ∃ j, k = j + 1 := ⟨k - 1, by omega⟩
              have t0 : ((j : Int) + 1 == 0) = false := by simp; omega
              have j0 : (0 : Int) ≤ (j : Int) := by omega
              obtain ⟨P1, hP1⟩ : ∃ P, P = (gp u (j + 1)).1 := ⟨_, rfl⟩
              obtain ⟨Q1, hQ1⟩ : ∃ P, P = (gp u (j + 1)).2 := ⟨_, rfl⟩
              have cP18 : w8.cell? ⟨bu, ou + (j + 1) * 2, none⟩ = some (.int .i64 P1) := by rw [cellB HB8.out _ _ lbu0, hP1]; exact (HCU.out (j + 1) hlt).1
              have cQ18 : w8.cell? ⟨bu, ou + (j + 1) * 2 + 1, none⟩ = some (.int .i64 Q1) := by rw [cellB HB8.out _ _ lbu0, hQ1]; exact (HCU.out (j + 1) hlt).2
              have hLg := HLD.out.hL
              have hLn := HLD.out.Ln
              by_cases hl : j + 1 ≤ L
              · have jn : j < n := by omega
                obtain ⟨P0, hP0⟩ : ∃ P, P = (gp u j).1 := ⟨_, rfl⟩
                obtain ⟨Q0, hQ0⟩ : ∃ P, P = (gp u j).2 := ⟨_, rfl⟩
                obtain ⟨E0, hE0⟩ : ∃ P, P = g0' e j := ⟨_, rfl⟩
                obtain ⟨S0, hS0⟩ : ∃ P, P = g0' s j := ⟨_, rfl⟩
                have cP08 : w8.cell? ⟨bu, ou + j * 2, none⟩ = some (.int .i64 P0) := by rw [cellB HB8.out _ _ lbu0, hP0]; exact (HCU.out j (by omega)).1
                have cQ08 : w8.cell? ⟨bu, ou + j * 2 + 1, none⟩ = some (.int .i64 Q0) := by rw [cellB HB8.out _ _ lbu0, hQ0]; exact (HCU.out j (by omega)).2
                have cE8 : w8.cell? ⟨be, oe + j, none⟩ = some (.int .i64 E0) := by rw [cellB HB8.out _ _ lbe0, hE0]; exact HCE.out j jn
                have cS8 : w8.cell? ⟨bs, os + j, none⟩ = some (.int .i64 S0) := by rw [cellB HB8.out _ _ lbs0, hS0]; exact HCS.out j jn
                have bP1 := HOK.out (j + 1) (by omega)
                have bP0 := HOK.out j (by omega)
                unfold FrOk at bP1 bP0
                simp only at bP1 bP0
                rw [← hP1, ← hQ1] at bP1
                rw [← hP0, ← hQ0] at bP0
                have bE0 := HLD.out.be _ (getD_mem (show j < e.length by rw [HLD.out.le]; exact jn))
                change 0 ≤ g0' e j ∧ g0' e j ≤ 100 at bE0
                rw [← hE0] at bE0
                have bS0 := HLD.out.s jn
                rw [← hS0] at bS0
                have hu1 : uq u (j + 1) = Rat.divInt P1 Q1 := by unfold uq; rw [hP1, hQ1]
                have hu0 : uq u j = Rat.divInt P0 Q0 := by unfold uq; rw [hP0, hQ0]
                have HR1 := Lib.hid (show rs1 s e u j = (E0 : Rat) * Rat.divInt P1 Q1 + (S0 : Rat) * (Rat.divInt P1 Q1 - Rat.divInt P0 Q0) by unfold rs1; rw [hu1, hu0, hE0, hS0])
                have HU1 := Lib.hid hu1
                have HHR := Lib.hid (show H = holdR s e u n j by rw [HH.out, HLD.out.hold_rsm HOK.out jn hl, holdR_eq])
                have z1 : Sz 2 (Rat.divInt P1 Q1) := sz_parts (by omega) (by omega)
                have z0 : Sz 2 (Rat.divInt P0 Q0) := sz_parts (by omega) (by omega)
                have zE : Sz 1 (E0 : Rat) := sz_int (by omega) (by omega)
                have zS : Sz 1 (S0 : Rat) := sz_int (by omega) (by omega)
                have zD : Sz 5 (Rat.divInt P1 Q1 - Rat.divInt P0 Q0) := sz_sub (K := 2) (M := 2) z1 z0
                have zM : Sz 3 ((E0 : Rat) * Rat.divInt P1 Q1) := sz_mul (K := 1) (M := 2) zE z1
                have zN : Sz 6 ((S0 : Rat) * (Rat.divInt P1 Q1 - Rat.divInt P0 Q0)) := sz_mul (K := 1) (M := 5) zS zD
                have zA : Sz 10 ((E0 : Rat) * Rat.divInt P1 Q1 + (S0 : Rat) * (Rat.divInt P1 Q1 - Rat.divInt P0 Q0)) := sz_add (K := 3) (M := 6) zM zN
                have HZ0 := Lib.hid (And.intro zE z1)
                have HZ1 := Lib.hid (And.intro zS (And.intro z1 (And.intro z0 (And.intro zD (And.intro zM zN)))))
                have HZA := Lib.hid zA
                clear hP1 hQ1 hP0 hQ0 hE0 hS0 hu1 hu0 z1 z0 zE zS zD zM zN zA
                have j1 : (j : Int) < (n : Int) := by omega
                have j2 : (j : Int) + 1 < (n : Int) + 1 := by omega
                have j3 : (j : Int) < (n : Int) + 1 := by omega
                have htest : (((j : Int) + 1 == (n : Int)) = false) ∨ (((j : Int) + 1 == (n : Int)) = true ∧ g = false) := by
                  by_cases h1 : j + 1 = n
                  · refine .inr ⟨by simp; omega, ?_⟩
                    cases g
                    · rfl
                    · unfold lastOf at hLg; simp at hLg; omega
                  · exact .inl (by simp; omega)
                clear hLg hLn
                have kcE := cE8
                have kcS := cS8
                have kcP1 := cP18
                have kcQ1 := cQ18
                have kcP0 := cP08
                have kcQ0 := cQ08
                have q0 := q08
                have q1 := q18
                rcases htest with t1 | ⟨t1, rfl⟩
                · have hjn : j + 1 < n := by
                    have : ¬ ((j : Int) + 1 = (n : Int)) := by simpa using t1
                    omega
                  have j4 : (j : Int) + 1 < (n : Int) := by omega
                  obtain ⟨P2, hP2⟩ : ∃ P, P = (gp u (j + 1 + 1)).1 := ⟨_, rfl⟩
                  obtain ⟨Q2, hQ2⟩ : ∃ P, P = (gp u (j + 1 + 1)).2 := ⟨_, rfl⟩
                  obtain ⟨S1, hS1⟩ : ∃ P, P = g0' s (j + 1) := ⟨_, rfl⟩
                  have cP28 : w8.cell? ⟨bu, ou + (j + 1 + 1) * 2, none⟩ = some (.int .i64 P2) := by rw [cellB HB8.out _ _ lbu0, hP2]; exact (HCU.out (j + 1 + 1) (by omega)).1
                  have cQ28 : w8.cell? ⟨bu, ou + (j + 1 + 1) * 2 + 1, none⟩ = some (.int .i64 Q2) := by rw [cellB HB8.out _ _ lbu0, hQ2]; exact (HCU.out (j + 1 + 1) (by omega)).2
                  have cT8 : w8.cell? ⟨bs, os + (j + 1), none⟩ = some (.int .i64 S1) := by rw [cellB HB8.out _ _ lbs0, hS1]; exact HCS.out (j + 1) hjn
                  have bP2 := HOK.out (j + 1 + 1) (by omega)
                  unfold FrOk at bP2
                  simp only at bP2
                  rw [← hP2, ← hQ2] at bP2
                  have bS1 := HLD.out.s hjn
                  rw [← hS1] at bS1
                  have z2 : Sz 2 (Rat.divInt P2 Q2) := sz_parts (by omega) (by omega)
                  have zT : Sz 1 (S1 : Rat) := sz_int (by omega) (by omega)
                  have zD : Sz 5 (Rat.divInt P1 Q1 - Rat.divInt P2 Q2) := sz_sub (K := 2) (M := 2) HZ0.out.2 z2
                  have zN : Sz 6 ((S1 : Rat) * (Rat.divInt P1 Q1 - Rat.divInt P2 Q2)) := sz_mul (K := 1) (M := 5) zT zD
                  have HZ2 := Lib.hid (And.intro zT (And.intro HZ0.out.2 (And.intro z2 (And.intro zD (And.intro HZA.out zN)))))
                  have HRS := Lib.hid (show holdR s e u n j = (((E0 : Rat) * Rat.divInt P1 Q1 + (S0 : Rat) * (Rat.divInt P1 Q1 - Rat.divInt P0 Q0) + (S1 : Rat) * (Rat.divInt P1 Q1 - Rat.divInt P2 Q2)).num.sign == 0) by
                    have hu2 : uq u (j + 1 + 1) = Rat.divInt P2 Q2 := by unfold uq; rw [hP2, hQ2]
                    unfold holdR rsm; rw [if_pos hjn, HR1.out, HU1.out, hu2, hS1])
                  clear hP2 hQ2 hS1 z2 zT zD zN
                  go_wp2_with fail
                  go_cut [12] from 63 to 75 (fun v12 wx => ∃ (X : Nat) (s9 t9 : Int) (a9 b9 : Option Addr) (n9 c9 m9 d9 : Nat), v12 = .pointer (some ⟨X, 0, none⟩) ∧ Hid (wx.heap[X]? = some (.cells #[.int .i64 s9, .slice a9 n9 c9, .int .i64 t9, .slice b9 m9 d9] 101)) ∧ w8.heap.size ≤ X ∧ Hid (RB wx (.agg #[.int .i64 s9, .slice a9 n9 c9, .int .i64 t9, .slice b9 m9 d9]) ((E0 : Rat) * Rat.divInt P1 Q1)) ∧ Hid (Below w8.heap.size w8 wx))
                  case first =>
                    have HN := Lib.hid (Below.refl w8.heap.size w8).drew
                    refine wp_region_laterT (B := w8.heap.size) (.head 0 (.head 1 (.head 2 (.head 3 (.head 4 (.head 5 (.head 7 (.head 8 (.head 9 (.head 10 (.two 6 (.two 11 (.two 12 (.one 13 (.one 14 .done)) 13 (.one 12 (.one 14 .done))) 13 (.one 11 (.one 12 (.one 14 .done)))) 13 (.one 6 (.one 11 (.one 12 (.one 14 .done))))))))))))))) (by kernel_rfl) (by kernel_rfl) ?_
                    repeat (refine tree_head rfl ?_; (show wpQuiet _ _ _ _ (_ :: _) _; go_big_quiet_step (fail)); refine wpQuiet_nil ?_)
                    refine tree_two rfl rfl ?_ ?_
                    · go_wp2_with fail
                      refine (rb_int E0 _ (by omega) (by omega)).mono ?_
                      rintro ex wx1 ⟨sA, aA, nA, cA, tA, bA, mA, dA, rfl, hbx, hA, hAs⟩
                      have HA := Lib.hid hA
                      have HS := Lib.hid hAs.out.here
                      clear hA hAs
                      have hzx := hbx.size
                      have HN := Lib.hid (HN.out.trans (hbx.mono HN.out.size))
                      clear hbx
                      go_wp2_with fail
                      refine tailL_mk HN.out ?_
                      repeat (refine tree_head rfl ?_; (show wpQuiet _ _ _ _ (_ :: _) _; go_big_quiet_step (fail)); refine wpQuiet_nil ?_)
                      refine tree_two rfl rfl ?_ ?_
                      · go_wp2_with fail
                        refine (rb_from P1 Q1 _ (by omega) (by omega) (by omega) (by omega) (by omega)).mono ?_
                        rintro ex wx2 ⟨sB, aB, nB, cB, tB, bB, mB, dB, rfl, hbx, hB, hBs⟩
                        have HB := Lib.hid hB
                        have HS := Lib.hid hBs.out.here
                        clear hB hBs
                        have hzx := hbx.size
                        have HN := Lib.hid (HN.out.trans (hbx.mono HN.out.size))
                        have HA := Lib.hid (HA.out.below hbx)
                        clear hbx
                        go_wp2_with fail
                        refine tailL_mk HN.out ?_
                        repeat (refine tree_head rfl ?_; (show wpQuiet _ _ _ _ (_ :: _) _; go_big_quiet_step (fail)); refine wpQuiet_nil ?_)
                        refine tree_two rfl rfl ?_ ?_
                        · go_wp2_with fail
                          refine (rb_mul _ _ _ _ 1 2 _ HA.out HB.out HZ0.out.1 HZ0.out.2 (by omega)).mono ?_
                          rintro ex wx3 ⟨sM, aM, nM, cM, tM, bM, mM, dM, rfl, hbx, hM, hMs⟩
                          have HM := Lib.hid hM
                          have HS := Lib.hid hMs.out.here
                          clear hM hMs
                          have hzx := hbx.size
                          have HN := Lib.hid (HN.out.trans (hbx.mono HN.out.size))
                          have HA := Lib.hid (HA.out.below hbx)
                          have HB := Lib.hid (HB.out.below hbx)
                          clear hbx
                          go_wp2_with fail
                          refine tailL_mk HN.out ?_
                          repeat (refine tree_head rfl ?_; (show wpQuiet _ _ _ _ (_ :: _) _; go_big_quiet_step (fail)); refine wpQuiet_nil ?_)
                          refine tree_one rfl ?_
                          go_wp2_with fail
                          obtain ⟨X9, hX9⟩ : ∃ X, X = wx3.heap.size := ⟨_, rfl⟩
                          have hNX : w8.heap.size ≤ X9 := by rw [hX9]; exact HN.out.size
                          have hx9 : (wx3.alloc (Obj.cells #[.int .i64 0, .slice none 0 0, .int .i64 0, .slice none 0 0] 101)).heap[X9]? = some (.cells #[.int .i64 0, .slice none 0 0, .int .i64 0, .slice none 0 0] 101) := by rw [hX9]; exact heap_alloc_new _ _
                          have l9 : X9 < (wx3.alloc (Obj.cells #[.int .i64 0, .slice none 0 0, .int .i64 0, .slice none 0 0] 101)).heap.size := by rw [hX9]; simp
                          have hs9 : (wx3.alloc (Obj.cells #[.int .i64 0, .slice none 0 0, .int .i64 0, .slice none 0 0] 101)).heap.size = wx3.heap.size + 1 := by simp
                          have hbx : Below wx3.heap.size wx3 (wx3.alloc (Obj.cells #[.int .i64 0, .slice none 0 0, .int .i64 0, .slice none 0 0] 101)) := by (repeat' (first | (with_reducible exact Below.refl _ _) | (with_reducible assumption) | (with_reducible refine Below.drewN ?_ _) | (with_reducible refine Below.alloc ?_ ?_ _) | (with_reducible refine Below.drew ?_) | (with_reducible refine Below.setCell ?_ ?_ _) | (with_reducible refine Below.step (by assumption) ?_ ?_) | (with_reducible exact And.left (by assumption)) | go_size))
                          try simp only [← hX9]
                          generalize (wx3.alloc (Obj.cells #[.int .i64 0, .slice none 0 0, .int .i64 0, .slice none 0 0] 101)) = wx4 at *
                          have HX9 := Lib.hid (And.intro hX9 hs9)
                          have HN := Lib.hid (HN.out.trans (hbx.mono HN.out.size))
                          have HA := Lib.hid (HA.out.below hbx)
                          have HB := Lib.hid (HB.out.below hbx)
                          have HM := Lib.hid (HM.out.below hbx)
                          have HS := Lib.hid (HS.out.below hbx)
                          clear hbx hX9 hs9
                          refine tailL_mk HN.out ?_
                          repeat (refine tree_head rfl ?_; (show wpQuiet _ _ _ _ (_ :: _) _; go_big_quiet_step (fail)); refine wpQuiet_nil ?_)
                          refine tree_one rfl ?_
                          have c90 := cell_of_row _ _ 0 _ _ _ hx9
                          have f90 := frozen_of_row _ _ 0 _ _ hx9
                          have c91 := cell_of_row _ _ 1 _ _ _ hx9
                          have f91 := frozen_of_row _ _ 1 _ _ hx9
                          have c92 := cell_of_row _ _ 2 _ _ _ hx9
                          have f92 := frozen_of_row _ _ 2 _ _ hx9
                          have c93 := cell_of_row _ _ 3 _ _ _ hx9
                          have f93 := frozen_of_row _ _ 3 _ _ hx9
                          simp only [List.getElem?_toArray, List.getElem?_cons_zero, List.getElem?_cons_succ] at c90 c91 c92 c93
                          go_wp2_with fail
                          have HN := Lib.hid (show Below w8.heap.size w8 ((((wx4.setCell ⟨X9, 0, none⟩ (.int .i64 sM)).setCell ⟨X9, 1, none⟩ (.slice aM nM cM)).setCell ⟨X9, 2, none⟩ (.int .i64 tM)).setCell ⟨X9, 3, none⟩ (.slice bM mM dM)) from Below.setCell (Below.setCell (Below.setCell (Below.setCell (HN.out) hNX _) hNX _) hNX _) hNX _)
                          have hx9 : ((((wx4.setCell ⟨X9, 0, none⟩ (.int .i64 sM)).setCell ⟨X9, 1, none⟩ (.slice aM nM cM)).setCell ⟨X9, 2, none⟩ (.int .i64 tM)).setCell ⟨X9, 3, none⟩ (.slice bM mM dM)).heap[X9]? = some (.cells #[.int .i64 sM, .slice aM nM cM, .int .i64 tM, .slice bM mM dM] 101) := blk_set (blk_set (blk_set (blk_set (hx9) 0 (.int .i64 sM)) 1 (.slice aM nM cM)) 2 (.int .i64 tM)) 3 (.slice bM mM dM)
                          refine tailL_mk HN.out ?_
                          repeat (refine tree_head rfl ?_; (show wpQuiet _ _ _ _ (_ :: _) _; go_big_quiet_step (fail)); refine wpQuiet_nil ?_)
                          refine tree_done ?_
                          go_wp2_with fail
                          have HR := Lib.hid (RB.put2 (X := X9) HS.out (fun b hb => by
                            obtain ⟨hX9, hsz9⟩ := HX9.out
                            (try simp only [World.size_drew] at *)
                            omega))
                          go_meet
                          case rel => exact ⟨X9, sM, tM, aM, bM, nM, cM, mM, dM, rfl, Lib.hid hx9, hNX, HR, HN⟩
                        · go_wp2_with fail
                          obtain ⟨X9, hX9⟩ : ∃ X, X = wx2.heap.size := ⟨_, rfl⟩
                          have hNX : w8.heap.size ≤ X9 := by rw [hX9]; exact HN.out.size
                          have hx9 : (wx2.alloc (Obj.cells #[.int .i64 0, .slice none 0 0, .int .i64 0, .slice none 0 0] 101)).heap[X9]? = some (.cells #[.int .i64 0, .slice none 0 0, .int .i64 0, .slice none 0 0] 101) := by rw [hX9]; exact heap_alloc_new _ _
                          have l9 : X9 < (wx2.alloc (Obj.cells #[.int .i64 0, .slice none 0 0, .int .i64 0, .slice none 0 0] 101)).heap.size := by rw [hX9]; simp
                          have hs9 : (wx2.alloc (Obj.cells #[.int .i64 0, .slice none 0 0, .int .i64 0, .slice none 0 0] 101)).heap.size = wx2.heap.size + 1 := by simp
                          have hbx : Below wx2.heap.size wx2 (wx2.alloc (Obj.cells #[.int .i64 0, .slice none 0 0, .int .i64 0, .slice none 0 0] 101)) := by (repeat' (first | (with_reducible exact Below.refl _ _) | (with_reducible assumption) | (with_reducible refine Below.drewN ?_ _) | (with_reducible refine Below.alloc ?_ ?_ _) | (with_reducible refine Below.drew ?_) | (with_reducible refine Below.setCell ?_ ?_ _) | (with_reducible refine Below.step (by assumption) ?_ ?_) | (with_reducible exact And.left (by assumption)) | go_size))
                          try simp only [← hX9]
                          generalize (wx2.alloc (Obj.cells #[.int .i64 0, .slice none 0 0, .int .i64 0, .slice none 0 0] 101)) = wx6 at *
                          have HX9 := Lib.hid (And.intro hX9 hs9)
                          have HN := Lib.hid (HN.out.trans (hbx.mono HN.out.size))
                          have HA := Lib.hid (HA.out.below hbx)
                          have HB := Lib.hid (HB.out.below hbx)
                          clear hbx hX9 hs9
                          refine tailL_mk HN.out ?_
                          repeat (refine tree_head rfl ?_; (show wpQuiet _ _ _ _ (_ :: _) _; go_big_quiet_step (fail)); refine wpQuiet_nil ?_)
                          refine tree_one rfl ?_
                          go_wp2_with fail
                          refine (rb_mul _ _ _ _ 1 2 _ HA.out HB.out HZ0.out.1 HZ0.out.2 (by omega)).mono ?_
                          rintro ex wx7 ⟨sM, aM, nM, cM, tM, bM, mM, dM, rfl, hbx, hM, hMs⟩
                          have HM := Lib.hid hM
                          have HS := Lib.hid hMs.out.here
                          clear hM hMs
                          have hzx := hbx.size
                          have HN := Lib.hid (HN.out.trans (hbx.mono HN.out.size))
                          have HA := Lib.hid (HA.out.below hbx)
                          have HB := Lib.hid (HB.out.below hbx)
                          have hx9 := (hbx.block X9 l9).trans hx9
                          have l9 := Nat.lt_of_lt_of_le l9 hbx.size
                          clear hbx
                          go_wp2_with fail
                          refine tailL_mk HN.out ?_
                          repeat (refine tree_head rfl ?_; (show wpQuiet _ _ _ _ (_ :: _) _; go_big_quiet_step (fail)); refine wpQuiet_nil ?_)
                          refine tree_one rfl ?_
                          have c90 := cell_of_row _ _ 0 _ _ _ hx9
                          have f90 := frozen_of_row _ _ 0 _ _ hx9
                          have c91 := cell_of_row _ _ 1 _ _ _ hx9
                          have f91 := frozen_of_row _ _ 1 _ _ hx9
                          have c92 := cell_of_row _ _ 2 _ _ _ hx9
                          have f92 := frozen_of_row _ _ 2 _ _ hx9
                          have c93 := cell_of_row _ _ 3 _ _ _ hx9
                          have f93 := frozen_of_row _ _ 3 _ _ hx9
                          simp only [List.getElem?_toArray, List.getElem?_cons_zero, List.getElem?_cons_succ] at c90 c91 c92 c93
                          go_wp2_with fail
                          have HN := Lib.hid (show Below w8.heap.size w8 ((((wx7.setCell ⟨X9, 0, none⟩ (.int .i64 sM)).setCell ⟨X9, 1, none⟩ (.slice aM nM cM)).setCell ⟨X9, 2, none⟩ (.int .i64 tM)).setCell ⟨X9, 3, none⟩ (.slice bM mM dM)) from Below.setCell (Below.setCell (Below.setCell (Below.setCell (HN.out) hNX _) hNX _) hNX _) hNX _)
                          have hx9 : ((((wx7.setCell ⟨X9, 0, none⟩ (.int .i64 sM)).setCell ⟨X9, 1, none⟩ (.slice aM nM cM)).setCell ⟨X9, 2, none⟩ (.int .i64 tM)).setCell ⟨X9, 3, none⟩ (.slice bM mM dM)).heap[X9]? = some (.cells #[.int .i64 sM, .slice aM nM cM, .int .i64 tM, .slice bM mM dM] 101) := blk_set (blk_set (blk_set (blk_set (hx9) 0 (.int .i64 sM)) 1 (.slice aM nM cM)) 2 (.int .i64 tM)) 3 (.slice bM mM dM)
                          refine tailL_mk HN.out ?_
                          repeat (refine tree_head rfl ?_; (show wpQuiet _ _ _ _ (_ :: _) _; go_big_quiet_step (fail)); refine wpQuiet_nil ?_)
                          refine tree_done ?_
                          go_wp2_with fail
                          have HR := Lib.hid (RB.put2 (X := X9) HS.out (fun b hb => by
                            obtain ⟨hX9, hsz9⟩ := HX9.out
                            (try simp only [World.size_drew] at *)
                            omega))
                          go_meet
                          case rel => exact ⟨X9, sM, tM, aM, bM, nM, cM, mM, dM, rfl, Lib.hid hx9, hNX, HR, HN⟩
                      · go_wp2_with fail
                        obtain ⟨X9, hX9⟩ : ∃ X, X = wx1.heap.size := ⟨_, rfl⟩
                        have hNX : w8.heap.size ≤ X9 := by rw [hX9]; exact HN.out.size
                        have hx9 : (wx1.alloc (Obj.cells #[.int .i64 0, .slice none 0 0, .int .i64 0, .slice none 0 0] 101)).heap[X9]? = some (.cells #[.int .i64 0, .slice none 0 0, .int .i64 0, .slice none 0 0] 101) := by rw [hX9]; exact heap_alloc_new _ _
                        have l9 : X9 < (wx1.alloc (Obj.cells #[.int .i64 0, .slice none 0 0, .int .i64 0, .slice none 0 0] 101)).heap.size := by rw [hX9]; simp
                        have hs9 : (wx1.alloc (Obj.cells #[.int .i64 0, .slice none 0 0, .int .i64 0, .slice none 0 0] 101)).heap.size = wx1.heap.size + 1 := by simp
                        have hbx : Below wx1.heap.size wx1 (wx1.alloc (Obj.cells #[.int .i64 0, .slice none 0 0, .int .i64 0, .slice none 0 0] 101)) := by (repeat' (first | (with_reducible exact Below.refl _ _) | (with_reducible assumption) | (with_reducible refine Below.drewN ?_ _) | (with_reducible refine Below.alloc ?_ ?_ _) | (with_reducible refine Below.drew ?_) | (with_reducible refine Below.setCell ?_ ?_ _) | (with_reducible refine Below.step (by assumption) ?_ ?_) | (with_reducible exact And.left (by assumption)) | go_size))
                        try simp only [← hX9]
                        generalize (wx1.alloc (Obj.cells #[.int .i64 0, .slice none 0 0, .int .i64 0, .slice none 0 0] 101)) = wx9 at *
                        have HX9 := Lib.hid (And.intro hX9 hs9)
                        have HN := Lib.hid (HN.out.trans (hbx.mono HN.out.size))
                        have HA := Lib.hid (HA.out.below hbx)
                        clear hbx hX9 hs9
                        refine tailL_mk HN.out ?_
                        repeat (refine tree_head rfl ?_; (show wpQuiet _ _ _ _ (_ :: _) _; go_big_quiet_step (fail)); refine wpQuiet_nil ?_)
                        refine tree_one rfl ?_
                        go_wp2_with fail
                        refine (rb_from P1 Q1 _ (by omega) (by omega) (by omega) (by omega) (by omega)).mono ?_
                        rintro ex wx10 ⟨sB, aB, nB, cB, tB, bB, mB, dB, rfl, hbx, hB, hBs⟩
                        have HB := Lib.hid hB
                        have HS := Lib.hid hBs.out.here
                        clear hB hBs
                        have hzx := hbx.size
                        have HN := Lib.hid (HN.out.trans (hbx.mono HN.out.size))
                        have HA := Lib.hid (HA.out.below hbx)
                        have hx9 := (hbx.block X9 l9).trans hx9
                        have l9 := Nat.lt_of_lt_of_le l9 hbx.size
                        clear hbx
                        go_wp2_with fail
                        refine tailL_mk HN.out ?_
                        repeat (refine tree_head rfl ?_; (show wpQuiet _ _ _ _ (_ :: _) _; go_big_quiet_step (fail)); refine wpQuiet_nil ?_)
                        refine tree_one rfl ?_
                        go_wp2_with fail
                        refine (rb_mul _ _ _ _ 1 2 _ HA.out HB.out HZ0.out.1 HZ0.out.2 (by omega)).mono ?_
                        rintro ex wx11 ⟨sM, aM, nM, cM, tM, bM, mM, dM, rfl, hbx, hM, hMs⟩
                        have HM := Lib.hid hM
                        have HS := Lib.hid hMs.out.here
                        clear hM hMs
                        have hzx := hbx.size
                        have HN := Lib.hid (HN.out.trans (hbx.mono HN.out.size))
                        have HA := Lib.hid (HA.out.below hbx)
                        have HB := Lib.hid (HB.out.below hbx)
                        have hx9 := (hbx.block X9 l9).trans hx9
                        have l9 := Nat.lt_of_lt_of_le l9 hbx.size
                        clear hbx
                        go_wp2_with fail
                        refine tailL_mk HN.out ?_
                        repeat (refine tree_head rfl ?_; (show wpQuiet _ _ _ _ (_ :: _) _; go_big_quiet_step (fail)); refine wpQuiet_nil ?_)
                        refine tree_one rfl ?_
                        have c90 := cell_of_row _ _ 0 _ _ _ hx9
                        have f90 := frozen_of_row _ _ 0 _ _ hx9
                        have c91 := cell_of_row _ _ 1 _ _ _ hx9
                        have f91 := frozen_of_row _ _ 1 _ _ hx9
                        have c92 := cell_of_row _ _ 2 _ _ _ hx9
                        have f92 := frozen_of_row _ _ 2 _ _ hx9
                        have c93 := cell_of_row _ _ 3 _ _ _ hx9
                        have f93 := frozen_of_row _ _ 3 _ _ hx9
                        simp only [List.getElem?_toArray, List.getElem?_cons_zero, List.getElem?_cons_succ] at c90 c91 c92 c93
                        go_wp2_with fail
                        have HN := Lib.hid (show Below w8.heap.size w8 ((((wx11.setCell ⟨X9, 0, none⟩ (.int .i64 sM)).setCell ⟨X9, 1, none⟩ (.slice aM nM cM)).setCell ⟨X9, 2, none⟩ (.int .i64 tM)).setCell ⟨X9, 3, none⟩ (.slice bM mM dM)) from Below.setCell (Below.setCell (Below.setCell (Below.setCell (HN.out) hNX _) hNX _) hNX _) hNX _)
                        have hx9 : ((((wx11.setCell ⟨X9, 0, none⟩ (.int .i64 sM)).setCell ⟨X9, 1, none⟩ (.slice aM nM cM)).setCell ⟨X9, 2, none⟩ (.int .i64 tM)).setCell ⟨X9, 3, none⟩ (.slice bM mM dM)).heap[X9]? = some (.cells #[.int .i64 sM, .slice aM nM cM, .int .i64 tM, .slice bM mM dM] 101) := blk_set (blk_set (blk_set (blk_set (hx9) 0 (.int .i64 sM)) 1 (.slice aM nM cM)) 2 (.int .i64 tM)) 3 (.slice bM mM dM)
                        refine tailL_mk HN.out ?_
                        repeat (refine tree_head rfl ?_; (show wpQuiet _ _ _ _ (_ :: _) _; go_big_quiet_step (fail)); refine wpQuiet_nil ?_)
                        refine tree_done ?_
                        go_wp2_with fail
                        have HR := Lib.hid (RB.put2 (X := X9) HS.out (fun b hb => by
                          obtain ⟨hX9, hsz9⟩ := HX9.out
                          (try simp only [World.size_drew] at *)
                          omega))
                        go_meet
                        case rel => exact ⟨X9, sM, tM, aM, bM, nM, cM, mM, dM, rfl, Lib.hid hx9, hNX, HR, HN⟩
                    · go_wp2_with fail
                      obtain ⟨X9, hX9⟩ : ∃ X, X = w8.heap.size := ⟨_, rfl⟩
                      have hNX : w8.heap.size ≤ X9 := by rw [hX9]; exact HN.out.size
                      have hx9 : (w8.alloc (Obj.cells #[.int .i64 0, .slice none 0 0, .int .i64 0, .slice none 0 0] 101)).drew.heap[X9]? = some (.cells #[.int .i64 0, .slice none 0 0, .int .i64 0, .slice none 0 0] 101) := by rw [hX9]; exact heap_alloc_new _ _
                      have l9 : X9 < (w8.alloc (Obj.cells #[.int .i64 0, .slice none 0 0, .int .i64 0, .slice none 0 0] 101)).drew.heap.size := by rw [hX9]; simp
                      have hs9 : (w8.alloc (Obj.cells #[.int .i64 0, .slice none 0 0, .int .i64 0, .slice none 0 0] 101)).drew.heap.size = w8.heap.size + 1 := by simp
                      have hbx : Below w8.heap.size w8 (w8.alloc (Obj.cells #[.int .i64 0, .slice none 0 0, .int .i64 0, .slice none 0 0] 101)).drew := by (repeat' (first | (with_reducible exact Below.refl _ _) | (with_reducible assumption) | (with_reducible refine Below.drewN ?_ _) | (with_reducible refine Below.alloc ?_ ?_ _) | (with_reducible refine Below.drew ?_) | (with_reducible refine Below.setCell ?_ ?_ _) | (with_reducible refine Below.step (by assumption) ?_ ?_) | (with_reducible exact And.left (by assumption)) | go_size))
                      try simp only [← hX9]
                      generalize (w8.alloc (Obj.cells #[.int .i64 0, .slice none 0 0, .int .i64 0, .slice none 0 0] 101)).drew = wx13 at *
                      have HX9 := Lib.hid (And.intro hX9 hs9)
                      have HN := Lib.hid hbx
                      clear hbx hX9 hs9
                      refine tailL_mk HN.out ?_
                      repeat (refine tree_head rfl ?_; (show wpQuiet _ _ _ _ (_ :: _) _; go_big_quiet_step (fail)); refine wpQuiet_nil ?_)
                      refine tree_one rfl ?_
                      go_wp2_with fail
                      refine (rb_int E0 _ (by omega) (by omega)).mono ?_
                      rintro ex wx14 ⟨sA, aA, nA, cA, tA, bA, mA, dA, rfl, hbx, hA, hAs⟩
                      have HA := Lib.hid hA
                      have HS := Lib.hid hAs.out.here
                      clear hA hAs
                      have hzx := hbx.size
                      have HN := Lib.hid (HN.out.trans (hbx.mono HN.out.size))
                      have hx9 := (hbx.block X9 l9).trans hx9
                      have l9 := Nat.lt_of_lt_of_le l9 hbx.size
                      clear hbx
                      go_wp2_with fail
                      refine tailL_mk HN.out ?_
                      repeat (refine tree_head rfl ?_; (show wpQuiet _ _ _ _ (_ :: _) _; go_big_quiet_step (fail)); refine wpQuiet_nil ?_)
                      refine tree_one rfl ?_
                      go_wp2_with fail
                      refine (rb_from P1 Q1 _ (by omega) (by omega) (by omega) (by omega) (by omega)).mono ?_
                      rintro ex wx15 ⟨sB, aB, nB, cB, tB, bB, mB, dB, rfl, hbx, hB, hBs⟩
                      have HB := Lib.hid hB
                      have HS := Lib.hid hBs.out.here
                      clear hB hBs
                      have hzx := hbx.size
                      have HN := Lib.hid (HN.out.trans (hbx.mono HN.out.size))
                      have HA := Lib.hid (HA.out.below hbx)
                      have hx9 := (hbx.block X9 l9).trans hx9
                      have l9 := Nat.lt_of_lt_of_le l9 hbx.size
                      clear hbx
                      go_wp2_with fail
                      refine tailL_mk HN.out ?_
                      repeat (refine tree_head rfl ?_; (show wpQuiet _ _ _ _ (_ :: _) _; go_big_quiet_step (fail)); refine wpQuiet_nil ?_)
                      refine tree_one rfl ?_
                      go_wp2_with fail
                      refine (rb_mul _ _ _ _ 1 2 _ HA.out HB.out HZ0.out.1 HZ0.out.2 (by omega)).mono ?_
                      rintro ex wx16 ⟨sM, aM, nM, cM, tM, bM, mM, dM, rfl, hbx, hM, hMs⟩
                      have HM := Lib.hid hM
                      have HS := Lib.hid hMs.out.here
                      clear hM hMs
                      have hzx := hbx.size
                      have HN := Lib.hid (HN.out.trans (hbx.mono HN.out.size))
                      have HA := Lib.hid (HA.out.below hbx)
                      have HB := Lib.hid (HB.out.below hbx)
                      have hx9 := (hbx.block X9 l9).trans hx9
                      have l9 := Nat.lt_of_lt_of_le l9 hbx.size
                      clear hbx
                      go_wp2_with fail
                      refine tailL_mk HN.out ?_
                      repeat (refine tree_head rfl ?_; (show wpQuiet _ _ _ _ (_ :: _) _; go_big_quiet_step (fail)); refine wpQuiet_nil ?_)
                      refine tree_one rfl ?_
                      have c90 := cell_of_row _ _ 0 _ _ _ hx9
                      have f90 := frozen_of_row _ _ 0 _ _ hx9
                      have c91 := cell_of_row _ _ 1 _ _ _ hx9
                      have f91 := frozen_of_row _ _ 1 _ _ hx9
                      have c92 := cell_of_row _ _ 2 _ _ _ hx9
                      have f92 := frozen_of_row _ _ 2 _ _ hx9
                      have c93 := cell_of_row _ _ 3 _ _ _ hx9
                      have f93 := frozen_of_row _ _ 3 _ _ hx9
                      simp only [List.getElem?_toArray, List.getElem?_cons_zero, List.getElem?_cons_succ] at c90 c91 c92 c93
                      go_wp2_with fail
                      have HN := Lib.hid (show Below w8.heap.size w8 ((((wx16.setCell ⟨X9, 0, none⟩ (.int .i64 sM)).setCell ⟨X9, 1, none⟩ (.slice aM nM cM)).setCell ⟨X9, 2, none⟩ (.int .i64 tM)).setCell ⟨X9, 3, none⟩ (.slice bM mM dM)) from Below.setCell (Below.setCell (Below.setCell (Below.setCell (HN.out) hNX _) hNX _) hNX _) hNX _)
                      have hx9 : ((((wx16.setCell ⟨X9, 0, none⟩ (.int .i64 sM)).setCell ⟨X9, 1, none⟩ (.slice aM nM cM)).setCell ⟨X9, 2, none⟩ (.int .i64 tM)).setCell ⟨X9, 3, none⟩ (.slice bM mM dM)).heap[X9]? = some (.cells #[.int .i64 sM, .slice aM nM cM, .int .i64 tM, .slice bM mM dM] 101) := blk_set (blk_set (blk_set (blk_set (hx9) 0 (.int .i64 sM)) 1 (.slice aM nM cM)) 2 (.int .i64 tM)) 3 (.slice bM mM dM)
                      refine tailL_mk HN.out ?_
                      repeat (refine tree_head rfl ?_; (show wpQuiet _ _ _ _ (_ :: _) _; go_big_quiet_step (fail)); refine wpQuiet_nil ?_)
                      refine tree_done ?_
                      go_wp2_with fail
                      have HR := Lib.hid (RB.put2 (X := X9) HS.out (fun b hb => by
                        obtain ⟨hX9, hsz9⟩ := HX9.out
                        (try simp only [World.size_drew] at *)
                        omega))
                      go_meet
                      case rel => exact ⟨X9, sM, tM, aM, bM, nM, cM, mM, dM, rfl, Lib.hid hx9, hNX, HR, HN⟩
                  case rest =>
                    obtain ⟨w9, rfl⟩ : ∃ w', w' = wc := ⟨wc, rfl⟩
                    obtain ⟨X, s9, t9, a9, b9, n9, c9, m9, d9, rfl, HX, lX8, HR, HQ⟩ := hcut
                    have hzq := HQ.out.size
                    clear kcE kcS kcP1 kcQ1 kcP0 kcQ0 q0 q1
                    have kcE : w9.cell? ⟨be, oe + j, none⟩ = some (.int .i64 E0) := by rw [cellB HQ.out _ _ lbe]; exact cE8
                    have kcS : w9.cell? ⟨bs, os + j, none⟩ = some (.int .i64 S0) := by rw [cellB HQ.out _ _ lbs]; exact cS8
                    have kcP1 : w9.cell? ⟨bu, ou + (j + 1) * 2, none⟩ = some (.int .i64 P1) := by rw [cellB HQ.out _ _ lbu]; exact cP18
                    have kcQ1 : w9.cell? ⟨bu, ou + (j + 1) * 2 + 1, none⟩ = some (.int .i64 Q1) := by rw [cellB HQ.out _ _ lbu]; exact cQ18
                    have kcP0 : w9.cell? ⟨bu, ou + j * 2, none⟩ = some (.int .i64 P0) := by rw [cellB HQ.out _ _ lbu]; exact cP08
                    have kcQ0 : w9.cell? ⟨bu, ou + j * 2 + 1, none⟩ = some (.int .i64 Q0) := by rw [cellB HQ.out _ _ lbu]; exact cQ08
                    have q0 : w9.cell? ⟨w.heap.size, 0, none⟩ = some (.slice (some ⟨bs, os, none⟩) n c) := by rw [cellB HQ.out _ _ l8]; exact q08
                    have q1 : w9.cell? ⟨w.heap.size, 1, none⟩ = some (.slice (some ⟨be, oe, none⟩) n c1) := by rw [cellB HQ.out _ _ l8]; exact q18
                    have lw1 : bs < w9.heap.size := Nat.lt_of_lt_of_le lbs HQ.out.size
                    have lw2 : be < w9.heap.size := Nat.lt_of_lt_of_le lbe HQ.out.size
                    have lw3 : bu < w9.heap.size := Nat.lt_of_lt_of_le lbu HQ.out.size
                    have lw4 : w.heap.size < w9.heap.size := Nat.lt_of_lt_of_le l8 HQ.out.size
                    have x0 := blk_cell HX.out (i := 0) rfl
                    have x1 := blk_cell HX.out (i := 1) rfl
                    have x2 := blk_cell HX.out (i := 2) rfl
                    have x3 := blk_cell HX.out (i := 3) rfl
                    have f0 := blk_fz HX.out 0
                    have f1 := blk_fz HX.out 1
                    have f2 := blk_fz HX.out 2
                    have f3 := blk_fz HX.out 3
                    have lX := blk_lt HX.out
                    go_wp2_with fail
                    have HN := Lib.hid (Below.refl w9.heap.size w9).drew
                    refine wp_region_laterY (B := w9.heap.size) [0, 1, 2, 3, 4, 5, 6, 8, 9, 10, 11, 13, 14, 15, 16, 17] [7, 12, 18, 19, 20, 21] [22] (by kernel_rfl) (by kernel_rfl) ?_; simp only [List.filterMap_cons, List.filterMap_nil, List.getElem?_cons_zero, List.getElem?_cons_succ]; repeat (show wpQuiet _ _ _ _ (_ :: _) _; go_big_quiet_step (fail))
                    refine wpQuiet_nil ?_
                    have HR := Lib.hid (HR.out.below (Below.refl _ _).drew)
                    have HX := Lib.hid (blk_below HX.out (Below.refl _ _).drew)
                    refine tailY_cons ?_
                    go_wp2_with fail
                    refine (rb_int S0 _ (by omega) (by omega)).mono ?_
                    rintro ex p1 ⟨sA, aA, nA, cA, tA, bA, mA, dA, rfl, hbx, hA, hAs⟩
                    have HA := Lib.hid hA
                    have HS := Lib.hid hAs.out.here
                    clear hA hAs
                    have hzx := hbx.size
                    have HN := Lib.hid (HN.out.trans (hbx.mono HN.out.size))
                    have HR := Lib.hid (HR.out.below hbx)
                    have HX := Lib.hid (blk_below HX.out hbx)
                    clear hbx
                    go_wp2_with fail
                    refine tailL_mk HN.out ?_
                    refine tailY_cons ?_
                    go_wp2_with fail
                    refine (rb_from P1 Q1 _ (by omega) (by omega) (by omega) (by omega) (by omega)).mono ?_
                    rintro ex p2 ⟨sB, aB, nB, cB, tB, bB, mB, dB, rfl, hbx, hB, hBs⟩
                    have HB := Lib.hid hB
                    have HS := Lib.hid hBs.out.here
                    clear hB hBs
                    have hzx := hbx.size
                    have HN := Lib.hid (HN.out.trans (hbx.mono HN.out.size))
                    have HR := Lib.hid (HR.out.below hbx)
                    have HA := Lib.hid (HA.out.below hbx)
                    have HX := Lib.hid (blk_below HX.out hbx)
                    clear hbx
                    go_wp2_with fail
                    refine tailL_mk HN.out ?_
                    refine tailY_cons ?_
                    go_wp2_with fail
                    refine (rb_from P0 Q0 _ (by omega) (by omega) (by omega) (by omega) (by omega)).mono ?_
                    rintro ex p3 ⟨sC, aC, nC, cC, tC, bC, mC, dC, rfl, hbx, hC, hCs⟩
                    have HC := Lib.hid hC
                    have HS := Lib.hid hCs.out.here
                    clear hC hCs
                    have hzx := hbx.size
                    have HN := Lib.hid (HN.out.trans (hbx.mono HN.out.size))
                    have HR := Lib.hid (HR.out.below hbx)
                    have HA := Lib.hid (HA.out.below hbx)
                    have HB := Lib.hid (HB.out.below hbx)
                    have HX := Lib.hid (blk_below HX.out hbx)
                    clear hbx
                    go_wp2_with fail
                    refine tailL_mk HN.out ?_
                    refine tailY_cons ?_
                    go_wp2_with fail
                    refine (rb_sub _ _ _ _ 2 2 _ HB.out HC.out HZ1.out.2.1 HZ1.out.2.2.1 (by omega)).mono ?_
                    rintro ex p4 ⟨sD, aD, nD, cD, tD, bD, mD, dD, rfl, hbx, hD, hDs⟩
                    have HD := Lib.hid hD
                    have HS := Lib.hid hDs.out.here
                    clear hD hDs
                    have hzx := hbx.size
                    have HN := Lib.hid (HN.out.trans (hbx.mono HN.out.size))
                    have HR := Lib.hid (HR.out.below hbx)
                    have HA := Lib.hid (HA.out.below hbx)
                    have HB := Lib.hid (HB.out.below hbx)
                    have HC := Lib.hid (HC.out.below hbx)
                    have HX := Lib.hid (blk_below HX.out hbx)
                    clear hbx
                    go_wp2_with fail
                    refine tailL_mk HN.out ?_
                    refine tailY_cons ?_
                    go_wp2_with fail
                    refine (rb_mul _ _ _ _ 1 5 _ HA.out HD.out HZ1.out.1 HZ1.out.2.2.2.1 (by omega)).mono ?_
                    rintro ex p5 ⟨sM, aM, nM, cM, tM, bM, mM, dM, rfl, hbx, hM, hMs⟩
                    have HM := Lib.hid hM
                    have HS := Lib.hid hMs.out.here
                    clear hM hMs
                    have hzx := hbx.size
                    have HN := Lib.hid (HN.out.trans (hbx.mono HN.out.size))
                    have HR := Lib.hid (HR.out.below hbx)
                    have HA := Lib.hid (HA.out.below hbx)
                    have HB := Lib.hid (HB.out.below hbx)
                    have HC := Lib.hid (HC.out.below hbx)
                    have HD := Lib.hid (HD.out.below hbx)
                    have HX := Lib.hid (blk_below HX.out hbx)
                    clear hbx
                    go_wp2_with fail
                    refine tailL_mk HN.out ?_
                    refine tailY_cons ?_
                    go_wp2_with fail
                    refine (rb_add _ _ _ _ 3 6 _ HR.out HM.out HZ1.out.2.2.2.2.1 HZ1.out.2.2.2.2.2 (by omega)).mono ?_
                    rintro ex p6 ⟨sS, aS, nS, cS, tS, bS, mS, dS, rfl, hbx, hS, hSs⟩
                    have HS := Lib.hid hS
                    have HS := Lib.hid hSs.out.here
                    clear hS hSs
                    have hzx := hbx.size
                    have HN := Lib.hid (HN.out.trans (hbx.mono HN.out.size))
                    have HR := Lib.hid (HR.out.below hbx)
                    have HA := Lib.hid (HA.out.below hbx)
                    have HB := Lib.hid (HB.out.below hbx)
                    have HC := Lib.hid (HC.out.below hbx)
                    have HD := Lib.hid (HD.out.below hbx)
                    have HM := Lib.hid (HM.out.below hbx)
                    have HX := Lib.hid (blk_below HX.out hbx)
                    clear hbx
                    go_wp2_with fail
                    refine tailL_mk HN.out ?_
                    refine tailY_ends ?_
                    clear kcE kcS kcP1 kcQ1 kcP0 kcQ0 q0 q1 HR
                    have x0 := blk_cell HX.out (i := 0) rfl
                    have x1 := blk_cell HX.out (i := 1) rfl
                    have x2 := blk_cell HX.out (i := 2) rfl
                    have x3 := blk_cell HX.out (i := 3) rfl
                    have f0 := blk_fz HX.out 0
                    have f1 := blk_fz HX.out 1
                    have f2 := blk_fz HX.out 2
                    have f3 := blk_fz HX.out 3
                    have lX := blk_lt HX.out
                    refine ends_cons ?_
                    go_wp2_with fail
                    refine tailZ_end ?_
                    refine ends_nil ?_
                    have hX9 := blk_set (blk_set (blk_set (blk_set HX.out 0 (.int .i64 sS)) 1 (.slice aS nS cS)) 2 (.int .i64 tS)) 3 (.slice bS mS dS)
                    have hRX := RB.put2 (X := X) HS.out (fun b hb => by (try simp only [World.size_drew] at *); omega)
                    have hNX : Below w8.heap.size w8 ((((p6.setCell ⟨X, 0, none⟩ (.int .i64 sS)).setCell ⟨X, 1, none⟩ (.slice aS nS cS)).setCell ⟨X, 2, none⟩ (.int .i64 tS)).setCell ⟨X, 3, none⟩ (.slice bS mS dS)) := Below.setCell (Below.setCell (Below.setCell (Below.setCell (HQ.out.trans (HN.out.mono HQ.out.size)) lX8 _) lX8 _) lX8 _) lX8 _
                    clear x0 x1 x2 x3 f0 f1 f2 f3 lX HX HS
                    generalize hW : (((p6.setCell ⟨X, 0, none⟩ (.int .i64 sS)).setCell ⟨X, 1, none⟩ (.slice aS nS cS)).setCell ⟨X, 2, none⟩ (.int .i64 tS)).setCell ⟨X, 3, none⟩ (.slice bS mS dS) = wf at *
                    have HX := Lib.hid (show wf.heap[X]? = some (.cells #[.int .i64 sS, .slice aS nS cS, .int .i64 tS, .slice bS mS dS] 101) from hX9)
                    have HR := Lib.hid hRX
                    have HQ := Lib.hid hNX
                    clear hW hX9 hRX hNX
                    have hzf := HQ.out.size
                    have kP1 : wf.cell? ⟨bu, ou + (j + 1) * 2, none⟩ = some (.int .i64 P1) := by rw [cellB HQ.out _ _ lbu]; exact cP18
                    have kQ1 : wf.cell? ⟨bu, ou + (j + 1) * 2 + 1, none⟩ = some (.int .i64 Q1) := by rw [cellB HQ.out _ _ lbu]; exact cQ18
                    have kP2 : wf.cell? ⟨bu, ou + (j + 1 + 1) * 2, none⟩ = some (.int .i64 P2) := by rw [cellB HQ.out _ _ lbu]; exact cP28
                    have kQ2 : wf.cell? ⟨bu, ou + (j + 1 + 1) * 2 + 1, none⟩ = some (.int .i64 Q2) := by rw [cellB HQ.out _ _ lbu]; exact cQ28
                    have kT : wf.cell? ⟨bs, os + (j + 1), none⟩ = some (.int .i64 S1) := by rw [cellB HQ.out _ _ lbs]; exact cT8
                    have q0 : wf.cell? ⟨w.heap.size, 0, none⟩ = some (.slice (some ⟨bs, os, none⟩) n c) := by rw [cellB HQ.out _ _ l8]; exact q08
                    have lw1 : bs < wf.heap.size := Nat.lt_of_lt_of_le lbs HQ.out.size
                    have lw3 : bu < wf.heap.size := Nat.lt_of_lt_of_le lbu HQ.out.size
                    have lw4 : w.heap.size < wf.heap.size := Nat.lt_of_lt_of_le l8 HQ.out.size
                    have j5 : (j : Int) + 1 + 1 < (n : Int) + 1 := by omega
                    have x0 := blk_cell HX.out (i := 0) rfl
                    have x1 := blk_cell HX.out (i := 1) rfl
                    have x2 := blk_cell HX.out (i := 2) rfl
                    have x3 := blk_cell HX.out (i := 3) rfl
                    have f0 := blk_fz HX.out 0
                    have f1 := blk_fz HX.out 1
                    have f2 := blk_fz HX.out 2
                    have f3 := blk_fz HX.out 3
                    have lX := blk_lt HX.out
                    go_wp2_with fail
                    have HN := Lib.hid (Below.refl wf.heap.size wf).drew
                    refine wp_region_laterY (B := wf.heap.size) [0, 1, 2, 3, 4, 5, 7, 8, 9, 10, 12, 13, 14, 15, 16] [6, 11, 17, 18, 19, 20] [21] (by kernel_rfl) (by kernel_rfl) ?_; simp only [List.filterMap_cons, List.filterMap_nil, List.getElem?_cons_zero, List.getElem?_cons_succ]; repeat (show wpQuiet _ _ _ _ (_ :: _) _; go_big_quiet_step (fail))
                    refine wpQuiet_nil ?_
                    have HR := Lib.hid (HR.out.below (Below.refl _ _).drew)
                    have HX := Lib.hid (blk_below HX.out (Below.refl _ _).drew)
                    refine tailY_cons ?_
                    go_wp2_with fail
                    refine (rb_int S1 _ (by omega) (by omega)).mono ?_
                    rintro ex r1 ⟨sA, aA, nA, cA, tA, bA, mA, dA, rfl, hbx, hA, hAs⟩
                    have HA := Lib.hid hA
                    have HS := Lib.hid hAs.out.here
                    clear hA hAs
                    have hzx := hbx.size
                    have HN := Lib.hid (HN.out.trans (hbx.mono HN.out.size))
                    have HR := Lib.hid (HR.out.below hbx)
                    have HX := Lib.hid (blk_below HX.out hbx)
                    clear hbx
                    go_wp2_with fail
                    refine tailL_mk HN.out ?_
                    refine tailY_cons ?_
                    go_wp2_with fail
                    refine (rb_from P1 Q1 _ (by omega) (by omega) (by omega) (by omega) (by omega)).mono ?_
                    rintro ex r2 ⟨sB, aB, nB, cB, tB, bB, mB, dB, rfl, hbx, hB, hBs⟩
                    have HB := Lib.hid hB
                    have HS := Lib.hid hBs.out.here
                    clear hB hBs
                    have hzx := hbx.size
                    have HN := Lib.hid (HN.out.trans (hbx.mono HN.out.size))
                    have HR := Lib.hid (HR.out.below hbx)
                    have HA := Lib.hid (HA.out.below hbx)
                    have HX := Lib.hid (blk_below HX.out hbx)
                    clear hbx
                    go_wp2_with fail
                    refine tailL_mk HN.out ?_
                    refine tailY_cons ?_
                    go_wp2_with fail
                    refine (rb_from P2 Q2 _ (by omega) (by omega) (by omega) (by omega) (by omega)).mono ?_
                    rintro ex r3 ⟨sC, aC, nC, cC, tC, bC, mC, dC, rfl, hbx, hC, hCs⟩
                    have HC := Lib.hid hC
                    have HS := Lib.hid hCs.out.here
                    clear hC hCs
                    have hzx := hbx.size
                    have HN := Lib.hid (HN.out.trans (hbx.mono HN.out.size))
                    have HR := Lib.hid (HR.out.below hbx)
                    have HA := Lib.hid (HA.out.below hbx)
                    have HB := Lib.hid (HB.out.below hbx)
                    have HX := Lib.hid (blk_below HX.out hbx)
                    clear hbx
                    go_wp2_with fail
                    refine tailL_mk HN.out ?_
                    refine tailY_cons ?_
                    go_wp2_with fail
                    refine (rb_sub _ _ _ _ 2 2 _ HB.out HC.out HZ2.out.2.1 HZ2.out.2.2.1 (by omega)).mono ?_
                    rintro ex r4 ⟨sD, aD, nD, cD, tD, bD, mD, dD, rfl, hbx, hD, hDs⟩
                    have HD := Lib.hid hD
                    have HS := Lib.hid hDs.out.here
                    clear hD hDs
                    have hzx := hbx.size
                    have HN := Lib.hid (HN.out.trans (hbx.mono HN.out.size))
                    have HR := Lib.hid (HR.out.below hbx)
                    have HA := Lib.hid (HA.out.below hbx)
                    have HB := Lib.hid (HB.out.below hbx)
                    have HC := Lib.hid (HC.out.below hbx)
                    have HX := Lib.hid (blk_below HX.out hbx)
                    clear hbx
                    go_wp2_with fail
                    refine tailL_mk HN.out ?_
                    refine tailY_cons ?_
                    go_wp2_with fail
                    refine (rb_mul _ _ _ _ 1 5 _ HA.out HD.out HZ2.out.1 HZ2.out.2.2.2.1 (by omega)).mono ?_
                    rintro ex r5 ⟨sM, aM, nM, cM, tM, bM, mM, dM, rfl, hbx, hM, hMs⟩
                    have HM := Lib.hid hM
                    have HS := Lib.hid hMs.out.here
                    clear hM hMs
                    have hzx := hbx.size
                    have HN := Lib.hid (HN.out.trans (hbx.mono HN.out.size))
                    have HR := Lib.hid (HR.out.below hbx)
                    have HA := Lib.hid (HA.out.below hbx)
                    have HB := Lib.hid (HB.out.below hbx)
                    have HC := Lib.hid (HC.out.below hbx)
                    have HD := Lib.hid (HD.out.below hbx)
                    have HX := Lib.hid (blk_below HX.out hbx)
                    clear hbx
                    go_wp2_with fail
                    refine tailL_mk HN.out ?_
                    refine tailY_cons ?_
                    go_wp2_with fail
                    refine (rb_add _ _ _ _ 10 6 _ HR.out HM.out HZ2.out.2.2.2.2.1 HZ2.out.2.2.2.2.2 (by omega)).mono ?_
                    rintro ex r6 ⟨sS, aS, nS, cS, tS, bS, mS, dS, rfl, hbx, hS, hSs⟩
                    have HS := Lib.hid hS
                    have HS := Lib.hid hSs.out.here
                    clear hS hSs
                    have hzx := hbx.size
                    have HN := Lib.hid (HN.out.trans (hbx.mono HN.out.size))
                    have HR := Lib.hid (HR.out.below hbx)
                    have HA := Lib.hid (HA.out.below hbx)
                    have HB := Lib.hid (HB.out.below hbx)
                    have HC := Lib.hid (HC.out.below hbx)
                    have HD := Lib.hid (HD.out.below hbx)
                    have HM := Lib.hid (HM.out.below hbx)
                    have HX := Lib.hid (blk_below HX.out hbx)
                    clear hbx
                    go_wp2_with fail
                    refine tailL_mk HN.out ?_
                    refine tailY_ends ?_
                    clear kP1 kQ1 kP2 kQ2 kT q0 HR
                    have x0 := blk_cell HX.out (i := 0) rfl
                    have x1 := blk_cell HX.out (i := 1) rfl
                    have x2 := blk_cell HX.out (i := 2) rfl
                    have x3 := blk_cell HX.out (i := 3) rfl
                    have f0 := blk_fz HX.out 0
                    have f1 := blk_fz HX.out 1
                    have f2 := blk_fz HX.out 2
                    have f3 := blk_fz HX.out 3
                    have lX := blk_lt HX.out
                    refine ends_cons ?_
                    go_wp2_with fail
                    refine tailZ_end ?_
                    refine ends_nil ?_
                    have hX9 := blk_set (blk_set (blk_set (blk_set HX.out 0 (.int .i64 sS)) 1 (.slice aS nS cS)) 2 (.int .i64 tS)) 3 (.slice bS mS dS)
                    have hRX := RB.put2 (X := X) HS.out (fun b hb => by (try simp only [World.size_drew] at *); omega)
                    have hNX : Below w8.heap.size w8 ((((r6.setCell ⟨X, 0, none⟩ (.int .i64 sS)).setCell ⟨X, 1, none⟩ (.slice aS nS cS)).setCell ⟨X, 2, none⟩ (.int .i64 tS)).setCell ⟨X, 3, none⟩ (.slice bS mS dS)) := Below.setCell (Below.setCell (Below.setCell (Below.setCell (HQ.out.trans (HN.out.mono HQ.out.size)) lX8 _) lX8 _) lX8 _) lX8 _
                    clear x0 x1 x2 x3 f0 f1 f2 f3 lX HX HS
                    generalize hW : (((r6.setCell ⟨X, 0, none⟩ (.int .i64 sS)).setCell ⟨X, 1, none⟩ (.slice aS nS cS)).setCell ⟨X, 2, none⟩ (.int .i64 tS)).setCell ⟨X, 3, none⟩ (.slice bS mS dS) = wg at *
                    have HX := Lib.hid (show wg.heap[X]? = some (.cells #[.int .i64 sS, .slice aS nS cS, .int .i64 tS, .slice bS mS dS] 101) from hX9)
                    have HR := Lib.hid hRX
                    have HQ := Lib.hid hNX
                    clear hW hX9 hRX hNX
                    have x0 := blk_cell HX.out (i := 0) rfl
                    have x1 := blk_cell HX.out (i := 1) rfl
                    have x2 := blk_cell HX.out (i := 2) rfl
                    have x3 := blk_cell HX.out (i := 3) rfl
                    have f0 := blk_fz HX.out 0
                    have f1 := blk_fz HX.out 1
                    have f2 := blk_fz HX.out 2
                    have f3 := blk_fz HX.out 3
                    have lX := blk_lt HX.out
                    go_wp2_with fail
                    refine (rb_sign _ _ _ HR.out).mono ?_
                    rintro e30 wz ⟨rfl, hbz⟩
                    have HQz := Lib.hid (HQ.out.trans (hbz.mono HQ.out.size))
                    clear hbz x0 x1 x2 x3 f0 f1 f2 f3 lX HX HR
                    go_wp2_with fail
                    go_meet
                    case rel => exact ⟨by rw [HHR.out, HRS.out], HQz⟩
                · have hjn : ¬ j + 1 < n := by
                    have : ((j : Int) + 1 = (n : Int)) := by simpa using t1
                    omega
                  have j4 : ¬ ((j : Int) + 1 < (n : Int)) := by omega
                  have HRS := Lib.hid (show holdR s e u n j = (((E0 : Rat) * Rat.divInt P1 Q1 + (S0 : Rat) * (Rat.divInt P1 Q1 - Rat.divInt P0 Q0)).num.sign == 0) by unfold holdR rsm; rw [if_neg hjn, HR1.out])
                  go_wp2_with fail
                  go_cut [12] from 63 to 75 (fun v12 wx => ∃ (X : Nat) (s9 t9 : Int) (a9 b9 : Option Addr) (n9 c9 m9 d9 : Nat), v12 = .pointer (some ⟨X, 0, none⟩) ∧ Hid (wx.heap[X]? = some (.cells #[.int .i64 s9, .slice a9 n9 c9, .int .i64 t9, .slice b9 m9 d9] 101)) ∧ w8.heap.size ≤ X ∧ Hid (RB wx (.agg #[.int .i64 s9, .slice a9 n9 c9, .int .i64 t9, .slice b9 m9 d9]) ((E0 : Rat) * Rat.divInt P1 Q1)) ∧ Hid (Below w8.heap.size w8 wx))
                  case first =>
                    have HN := Lib.hid (Below.refl w8.heap.size w8).drew
                    refine wp_region_laterT (B := w8.heap.size) (.head 0 (.head 1 (.head 2 (.head 3 (.head 4 (.head 5 (.head 7 (.head 8 (.head 9 (.head 10 (.two 6 (.two 11 (.two 12 (.one 13 (.one 14 .done)) 13 (.one 12 (.one 14 .done))) 13 (.one 11 (.one 12 (.one 14 .done)))) 13 (.one 6 (.one 11 (.one 12 (.one 14 .done))))))))))))))) (by kernel_rfl) (by kernel_rfl) ?_
                    repeat (refine tree_head rfl ?_; (show wpQuiet _ _ _ _ (_ :: _) _; go_big_quiet_step (fail)); refine wpQuiet_nil ?_)
                    refine tree_two rfl rfl ?_ ?_
                    · go_wp2_with fail
                      refine (rb_int E0 _ (by omega) (by omega)).mono ?_
                      rintro ex wx1 ⟨sA, aA, nA, cA, tA, bA, mA, dA, rfl, hbx, hA, hAs⟩
                      have HA := Lib.hid hA
                      have HS := Lib.hid hAs.out.here
                      clear hA hAs
                      have hzx := hbx.size
                      have HN := Lib.hid (HN.out.trans (hbx.mono HN.out.size))
                      clear hbx
                      go_wp2_with fail
                      refine tailL_mk HN.out ?_
                      repeat (refine tree_head rfl ?_; (show wpQuiet _ _ _ _ (_ :: _) _; go_big_quiet_step (fail)); refine wpQuiet_nil ?_)
                      refine tree_two rfl rfl ?_ ?_
                      · go_wp2_with fail
                        refine (rb_from P1 Q1 _ (by omega) (by omega) (by omega) (by omega) (by omega)).mono ?_
                        rintro ex wx2 ⟨sB, aB, nB, cB, tB, bB, mB, dB, rfl, hbx, hB, hBs⟩
                        have HB := Lib.hid hB
                        have HS := Lib.hid hBs.out.here
                        clear hB hBs
                        have hzx := hbx.size
                        have HN := Lib.hid (HN.out.trans (hbx.mono HN.out.size))
                        have HA := Lib.hid (HA.out.below hbx)
                        clear hbx
                        go_wp2_with fail
                        refine tailL_mk HN.out ?_
                        repeat (refine tree_head rfl ?_; (show wpQuiet _ _ _ _ (_ :: _) _; go_big_quiet_step (fail)); refine wpQuiet_nil ?_)
                        refine tree_two rfl rfl ?_ ?_
                        · go_wp2_with fail
                          refine (rb_mul _ _ _ _ 1 2 _ HA.out HB.out HZ0.out.1 HZ0.out.2 (by omega)).mono ?_
                          rintro ex wx3 ⟨sM, aM, nM, cM, tM, bM, mM, dM, rfl, hbx, hM, hMs⟩
                          have HM := Lib.hid hM
                          have HS := Lib.hid hMs.out.here
                          clear hM hMs
                          have hzx := hbx.size
                          have HN := Lib.hid (HN.out.trans (hbx.mono HN.out.size))
                          have HA := Lib.hid (HA.out.below hbx)
                          have HB := Lib.hid (HB.out.below hbx)
                          clear hbx
                          go_wp2_with fail
                          refine tailL_mk HN.out ?_
                          repeat (refine tree_head rfl ?_; (show wpQuiet _ _ _ _ (_ :: _) _; go_big_quiet_step (fail)); refine wpQuiet_nil ?_)
                          refine tree_one rfl ?_
                          go_wp2_with fail
                          obtain ⟨X9, hX9⟩ : ∃ X, X = wx3.heap.size := ⟨_, rfl⟩
                          have hNX : w8.heap.size ≤ X9 := by rw [hX9]; exact HN.out.size
                          have hx9 : (wx3.alloc (Obj.cells #[.int .i64 0, .slice none 0 0, .int .i64 0, .slice none 0 0] 101)).heap[X9]? = some (.cells #[.int .i64 0, .slice none 0 0, .int .i64 0, .slice none 0 0] 101) := by rw [hX9]; exact heap_alloc_new _ _
                          have l9 : X9 < (wx3.alloc (Obj.cells #[.int .i64 0, .slice none 0 0, .int .i64 0, .slice none 0 0] 101)).heap.size := by rw [hX9]; simp
                          have hs9 : (wx3.alloc (Obj.cells #[.int .i64 0, .slice none 0 0, .int .i64 0, .slice none 0 0] 101)).heap.size = wx3.heap.size + 1 := by simp
                          have hbx : Below wx3.heap.size wx3 (wx3.alloc (Obj.cells #[.int .i64 0, .slice none 0 0, .int .i64 0, .slice none 0 0] 101)) := by (repeat' (first | (with_reducible exact Below.refl _ _) | (with_reducible assumption) | (with_reducible refine Below.drewN ?_ _) | (with_reducible refine Below.alloc ?_ ?_ _) | (with_reducible refine Below.drew ?_) | (with_reducible refine Below.setCell ?_ ?_ _) | (with_reducible refine Below.step (by assumption) ?_ ?_) | (with_reducible exact And.left (by assumption)) | go_size))
                          try simp only [← hX9]
                          generalize (wx3.alloc (Obj.cells #[.int .i64 0, .slice none 0 0, .int .i64 0, .slice none 0 0] 101)) = wx4 at *
                          have HX9 := Lib.hid (And.intro hX9 hs9)
                          have HN := Lib.hid (HN.out.trans (hbx.mono HN.out.size))
                          have HA := Lib.hid (HA.out.below hbx)
                          have HB := Lib.hid (HB.out.below hbx)
                          have HM := Lib.hid (HM.out.below hbx)
                          have HS := Lib.hid (HS.out.below hbx)
                          clear hbx hX9 hs9
                          refine tailL_mk HN.out ?_
                          repeat (refine tree_head rfl ?_; (show wpQuiet _ _ _ _ (_ :: _) _; go_big_quiet_step (fail)); refine wpQuiet_nil ?_)
                          refine tree_one rfl ?_
                          have c90 := cell_of_row _ _ 0 _ _ _ hx9
                          have f90 := frozen_of_row _ _ 0 _ _ hx9
                          have c91 := cell_of_row _ _ 1 _ _ _ hx9
                          have f91 := frozen_of_row _ _ 1 _ _ hx9
                          have c92 := cell_of_row _ _ 2 _ _ _ hx9
                          have f92 := frozen_of_row _ _ 2 _ _ hx9
                          have c93 := cell_of_row _ _ 3 _ _ _ hx9
                          have f93 := frozen_of_row _ _ 3 _ _ hx9
                          simp only [List.getElem?_toArray, List.getElem?_cons_zero, List.getElem?_cons_succ] at c90 c91 c92 c93
                          go_wp2_with fail
                          have HN := Lib.hid (show Below w8.heap.size w8 ((((wx4.setCell ⟨X9, 0, none⟩ (.int .i64 sM)).setCell ⟨X9, 1, none⟩ (.slice aM nM cM)).setCell ⟨X9, 2, none⟩ (.int .i64 tM)).setCell ⟨X9, 3, none⟩ (.slice bM mM dM)) from Below.setCell (Below.setCell (Below.setCell (Below.setCell (HN.out) hNX _) hNX _) hNX _) hNX _)
                          have hx9 : ((((wx4.setCell ⟨X9, 0, none⟩ (.int .i64 sM)).setCell ⟨X9, 1, none⟩ (.slice aM nM cM)).setCell ⟨X9, 2, none⟩ (.int .i64 tM)).setCell ⟨X9, 3, none⟩ (.slice bM mM dM)).heap[X9]? = some (.cells #[.int .i64 sM, .slice aM nM cM, .int .i64 tM, .slice bM mM dM] 101) := blk_set (blk_set (blk_set (blk_set (hx9) 0 (.int .i64 sM)) 1 (.slice aM nM cM)) 2 (.int .i64 tM)) 3 (.slice bM mM dM)
                          refine tailL_mk HN.out ?_
                          repeat (refine tree_head rfl ?_; (show wpQuiet _ _ _ _ (_ :: _) _; go_big_quiet_step (fail)); refine wpQuiet_nil ?_)
                          refine tree_done ?_
                          go_wp2_with fail
                          have HR := Lib.hid (RB.put2 (X := X9) HS.out (fun b hb => by
                            obtain ⟨hX9, hsz9⟩ := HX9.out
                            (try simp only [World.size_drew] at *)
                            omega))
                          go_meet
                          case rel => exact ⟨X9, sM, tM, aM, bM, nM, cM, mM, dM, rfl, Lib.hid hx9, hNX, HR, HN⟩
                        · go_wp2_with fail
                          obtain ⟨X9, hX9⟩ : ∃ X, X = wx2.heap.size := ⟨_, rfl⟩
                          have hNX : w8.heap.size ≤ X9 := by rw [hX9]; exact HN.out.size
                          have hx9 : (wx2.alloc (Obj.cells #[.int .i64 0, .slice none 0 0, .int .i64 0, .slice none 0 0] 101)).heap[X9]? = some (.cells #[.int .i64 0, .slice none 0 0, .int .i64 0, .slice none 0 0] 101) := by rw [hX9]; exact heap_alloc_new _ _
                          have l9 : X9 < (wx2.alloc (Obj.cells #[.int .i64 0, .slice none 0 0, .int .i64 0, .slice none 0 0] 101)).heap.size := by rw [hX9]; simp
                          have hs9 : (wx2.alloc (Obj.cells #[.int .i64 0, .slice none 0 0, .int .i64 0, .slice none 0 0] 101)).heap.size = wx2.heap.size + 1 := by simp
                          have hbx : Below wx2.heap.size wx2 (wx2.alloc (Obj.cells #[.int .i64 0, .slice none 0 0, .int .i64 0, .slice none 0 0] 101)) := by (repeat' (first | (with_reducible exact Below.refl _ _) | (with_reducible assumption) | (with_reducible refine Below.drewN ?_ _) | (with_reducible refine Below.alloc ?_ ?_ _) | (with_reducible refine Below.drew ?_) | (with_reducible refine Below.setCell ?_ ?_ _) | (with_reducible refine Below.step (by assumption) ?_ ?_) | (with_reducible exact And.left (by assumption)) | go_size))
                          try simp only [← hX9]
                          generalize (wx2.alloc (Obj.cells #[.int .i64 0, .slice none 0 0, .int .i64 0, .slice none 0 0] 101)) = wx6 at *
                          have HX9 := Lib.hid (And.intro hX9 hs9)
                          have HN := Lib.hid (HN.out.trans (hbx.mono HN.out.size))
                          have HA := Lib.hid (HA.out.below hbx)
                          have HB := Lib.hid (HB.out.below hbx)
                          clear hbx hX9 hs9
                          refine tailL_mk HN.out ?_
                          repeat (refine tree_head rfl ?_; (show wpQuiet _ _ _ _ (_ :: _) _; go_big_quiet_step (fail)); refine wpQuiet_nil ?_)
                          refine tree_one rfl ?_
                          go_wp2_with fail
                          refine (rb_mul _ _ _ _ 1 2 _ HA.out HB.out HZ0.out.1 HZ0.out.2 (by omega)).mono ?_
                          rintro ex wx7 ⟨sM, aM, nM, cM, tM, bM, mM, dM, rfl, hbx, hM, hMs⟩
                          have HM := Lib.hid hM
                          have HS := Lib.hid hMs.out.here
                          clear hM hMs
                          have hzx := hbx.size
                          have HN := Lib.hid (HN.out.trans (hbx.mono HN.out.size))
                          have HA := Lib.hid (HA.out.below hbx)
                          have HB := Lib.hid (HB.out.below hbx)
                          have hx9 := (hbx.block X9 l9).trans hx9
                          have l9 := Nat.lt_of_lt_of_le l9 hbx.size
                          clear hbx
                          go_wp2_with fail
                          refine tailL_mk HN.out ?_
                          repeat (refine tree_head rfl ?_; (show wpQuiet _ _ _ _ (_ :: _) _; go_big_quiet_step (fail)); refine wpQuiet_nil ?_)
                          refine tree_one rfl ?_
                          have c90 := cell_of_row _ _ 0 _ _ _ hx9
                          have f90 := frozen_of_row _ _ 0 _ _ hx9
                          have c91 := cell_of_row _ _ 1 _ _ _ hx9
                          have f91 := frozen_of_row _ _ 1 _ _ hx9
                          have c92 := cell_of_row _ _ 2 _ _ _ hx9
                          have f92 := frozen_of_row _ _ 2 _ _ hx9
                          have c93 := cell_of_row _ _ 3 _ _ _ hx9
                          have f93 := frozen_of_row _ _ 3 _ _ hx9
                          simp only [List.getElem?_toArray, List.getElem?_cons_zero, List.getElem?_cons_succ] at c90 c91 c92 c93
                          go_wp2_with fail
                          have HN := Lib.hid (show Below w8.heap.size w8 ((((wx7.setCell ⟨X9, 0, none⟩ (.int .i64 sM)).setCell ⟨X9, 1, none⟩ (.slice aM nM cM)).setCell ⟨X9, 2, none⟩ (.int .i64 tM)).setCell ⟨X9, 3, none⟩ (.slice bM mM dM)) from Below.setCell (Below.setCell (Below.setCell (Below.setCell (HN.out) hNX _) hNX _) hNX _) hNX _)
                          have hx9 : ((((wx7.setCell ⟨X9, 0, none⟩ (.int .i64 sM)).setCell ⟨X9, 1, none⟩ (.slice aM nM cM)).setCell ⟨X9, 2, none⟩ (.int .i64 tM)).setCell ⟨X9, 3, none⟩ (.slice bM mM dM)).heap[X9]? = some (.cells #[.int .i64 sM, .slice aM nM cM, .int .i64 tM, .slice bM mM dM] 101) := blk_set (blk_set (blk_set (blk_set (hx9) 0 (.int .i64 sM)) 1 (.slice aM nM cM)) 2 (.int .i64 tM)) 3 (.slice bM mM dM)
                          refine tailL_mk HN.out ?_
                          repeat (refine tree_head rfl ?_; (show wpQuiet _ _ _ _ (_ :: _) _; go_big_quiet_step (fail)); refine wpQuiet_nil ?_)
                          refine tree_done ?_
                          go_wp2_with fail
                          have HR := Lib.hid (RB.put2 (X := X9) HS.out (fun b hb => by
                            obtain ⟨hX9, hsz9⟩ := HX9.out
                            (try simp only [World.size_drew] at *)
                            omega))
                          go_meet
                          case rel => exact ⟨X9, sM, tM, aM, bM, nM, cM, mM, dM, rfl, Lib.hid hx9, hNX, HR, HN⟩
                      · go_wp2_with fail
                        obtain ⟨X9, hX9⟩ : ∃ X, X = wx1.heap.size := ⟨_, rfl⟩
                        have hNX : w8.heap.size ≤ X9 := by rw [hX9]; exact HN.out.size
                        have hx9 : (wx1.alloc (Obj.cells #[.int .i64 0, .slice none 0 0, .int .i64 0, .slice none 0 0] 101)).heap[X9]? = some (.cells #[.int .i64 0, .slice none 0 0, .int .i64 0, .slice none 0 0] 101) := by rw [hX9]; exact heap_alloc_new _ _
                        have l9 : X9 < (wx1.alloc (Obj.cells #[.int .i64 0, .slice none 0 0, .int .i64 0, .slice none 0 0] 101)).heap.size := by rw [hX9]; simp
                        have hs9 : (wx1.alloc (Obj.cells #[.int .i64 0, .slice none 0 0, .int .i64 0, .slice none 0 0] 101)).heap.size = wx1.heap.size + 1 := by simp
                        have hbx : Below wx1.heap.size wx1 (wx1.alloc (Obj.cells #[.int .i64 0, .slice none 0 0, .int .i64 0, .slice none 0 0] 101)) := by (repeat' (first | (with_reducible exact Below.refl _ _) | (with_reducible assumption) | (with_reducible refine Below.drewN ?_ _) | (with_reducible refine Below.alloc ?_ ?_ _) | (with_reducible refine Below.drew ?_) | (with_reducible refine Below.setCell ?_ ?_ _) | (with_reducible refine Below.step (by assumption) ?_ ?_) | (with_reducible exact And.left (by assumption)) | go_size))
                        try simp only [← hX9]
                        generalize (wx1.alloc (Obj.cells #[.int .i64 0, .slice none 0 0, .int .i64 0, .slice none 0 0] 101)) = wx9 at *
                        have HX9 := Lib.hid (And.intro hX9 hs9)
                        have HN := Lib.hid (HN.out.trans (hbx.mono HN.out.size))
                        have HA := Lib.hid (HA.out.below hbx)
                        clear hbx hX9 hs9
                        refine tailL_mk HN.out ?_
                        repeat (refine tree_head rfl ?_; (show wpQuiet _ _ _ _ (_ :: _) _; go_big_quiet_step (fail)); refine wpQuiet_nil ?_)
                        refine tree_one rfl ?_
                        go_wp2_with fail
                        refine (rb_from P1 Q1 _ (by omega) (by omega) (by omega) (by omega) (by omega)).mono ?_
                        rintro ex wx10 ⟨sB, aB, nB, cB, tB, bB, mB, dB, rfl, hbx, hB, hBs⟩
                        have HB := Lib.hid hB
                        have HS := Lib.hid hBs.out.here
                        clear hB hBs
                        have hzx := hbx.size
                        have HN := Lib.hid (HN.out.trans (hbx.mono HN.out.size))
                        have HA := Lib.hid (HA.out.below hbx)
                        have hx9 := (hbx.block X9 l9).trans hx9
                        have l9 := Nat.lt_of_lt_of_le l9 hbx.size
                        clear hbx
                        go_wp2_with fail
                        refine tailL_mk HN.out ?_
                        repeat (refine tree_head rfl ?_; (show wpQuiet _ _ _ _ (_ :: _) _; go_big_quiet_step (fail)); refine wpQuiet_nil ?_)
                        refine tree_one rfl ?_
                        go_wp2_with fail
                        refine (rb_mul _ _ _ _ 1 2 _ HA.out HB.out HZ0.out.1 HZ0.out.2 (by omega)).mono ?_
                        rintro ex wx11 ⟨sM, aM, nM, cM, tM, bM, mM, dM, rfl, hbx, hM, hMs⟩
                        have HM := Lib.hid hM
                        have HS := Lib.hid hMs.out.here
                        clear hM hMs
                        have hzx := hbx.size
                        have HN := Lib.hid (HN.out.trans (hbx.mono HN.out.size))
                        have HA := Lib.hid (HA.out.below hbx)
                        have HB := Lib.hid (HB.out.below hbx)
                        have hx9 := (hbx.block X9 l9).trans hx9
                        have l9 := Nat.lt_of_lt_of_le l9 hbx.size
                        clear hbx
                        go_wp2_with fail
                        refine tailL_mk HN.out ?_
                        repeat (refine tree_head rfl ?_; (show wpQuiet _ _ _ _ (_ :: _) _; go_big_quiet_step (fail)); refine wpQuiet_nil ?_)
                        refine tree_one rfl ?_
                        have c90 := cell_of_row _ _ 0 _ _ _ hx9
                        have f90 := frozen_of_row _ _ 0 _ _ hx9
                        have c91 := cell_of_row _ _ 1 _ _ _ hx9
                        have f91 := frozen_of_row _ _ 1 _ _ hx9
                        have c92 := cell_of_row _ _ 2 _ _ _ hx9
                        have f92 := frozen_of_row _ _ 2 _ _ hx9
                        have c93 := cell_of_row _ _ 3 _ _ _ hx9
                        have f93 := frozen_of_row _ _ 3 _ _ hx9
                        simp only [List.getElem?_toArray, List.getElem?_cons_zero, List.getElem?_cons_succ] at c90 c91 c92 c93
                        go_wp2_with fail
                        have HN := Lib.hid (show Below w8.heap.size w8 ((((wx11.setCell ⟨X9, 0, none⟩ (.int .i64 sM)).setCell ⟨X9, 1, none⟩ (.slice aM nM cM)).setCell ⟨X9, 2, none⟩ (.int .i64 tM)).setCell ⟨X9, 3, none⟩ (.slice bM mM dM)) from Below.setCell (Below.setCell (Below.setCell (Below.setCell (HN.out) hNX _) hNX _) hNX _) hNX _)
                        have hx9 : ((((wx11.setCell ⟨X9, 0, none⟩ (.int .i64 sM)).setCell ⟨X9, 1, none⟩ (.slice aM nM cM)).setCell ⟨X9, 2, none⟩ (.int .i64 tM)).setCell ⟨X9, 3, none⟩ (.slice bM mM dM)).heap[X9]? = some (.cells #[.int .i64 sM, .slice aM nM cM, .int .i64 tM, .slice bM mM dM] 101) := blk_set (blk_set (blk_set (blk_set (hx9) 0 (.int .i64 sM)) 1 (.slice aM nM cM)) 2 (.int .i64 tM)) 3 (.slice bM mM dM)
                        refine tailL_mk HN.out ?_
                        repeat (refine tree_head rfl ?_; (show wpQuiet _ _ _ _ (_ :: _) _; go_big_quiet_step (fail)); refine wpQuiet_nil ?_)
                        refine tree_done ?_
                        go_wp2_with fail
                        have HR := Lib.hid (RB.put2 (X := X9) HS.out (fun b hb => by
                          obtain ⟨hX9, hsz9⟩ := HX9.out
                          (try simp only [World.size_drew] at *)
                          omega))
                        go_meet
                        case rel => exact ⟨X9, sM, tM, aM, bM, nM, cM, mM, dM, rfl, Lib.hid hx9, hNX, HR, HN⟩
                    · go_wp2_with fail
                      obtain ⟨X9, hX9⟩ : ∃ X, X = w8.heap.size := ⟨_, rfl⟩
                      have hNX : w8.heap.size ≤ X9 := by rw [hX9]; exact HN.out.size
                      have hx9 : (w8.alloc (Obj.cells #[.int .i64 0, .slice none 0 0, .int .i64 0, .slice none 0 0] 101)).drew.heap[X9]? = some (.cells #[.int .i64 0, .slice none 0 0, .int .i64 0, .slice none 0 0] 101) := by rw [hX9]; exact heap_alloc_new _ _
                      have l9 : X9 < (w8.alloc (Obj.cells #[.int .i64 0, .slice none 0 0, .int .i64 0, .slice none 0 0] 101)).drew.heap.size := by rw [hX9]; simp
                      have hs9 : (w8.alloc (Obj.cells #[.int .i64 0, .slice none 0 0, .int .i64 0, .slice none 0 0] 101)).drew.heap.size = w8.heap.size + 1 := by simp
                      have hbx : Below w8.heap.size w8 (w8.alloc (Obj.cells #[.int .i64 0, .slice none 0 0, .int .i64 0, .slice none 0 0] 101)).drew := by (repeat' (first | (with_reducible exact Below.refl _ _) | (with_reducible assumption) | (with_reducible refine Below.drewN ?_ _) | (with_reducible refine Below.alloc ?_ ?_ _) | (with_reducible refine Below.drew ?_) | (with_reducible refine Below.setCell ?_ ?_ _) | (with_reducible refine Below.step (by assumption) ?_ ?_) | (with_reducible exact And.left (by assumption)) | go_size))
                      try simp only [← hX9]
                      generalize (w8.alloc (Obj.cells #[.int .i64 0, .slice none 0 0, .int .i64 0, .slice none 0 0] 101)).drew = wx13 at *
                      have HX9 := Lib.hid (And.intro hX9 hs9)
                      have HN := Lib.hid hbx
                      clear hbx hX9 hs9
                      refine tailL_mk HN.out ?_
                      repeat (refine tree_head rfl ?_; (show wpQuiet _ _ _ _ (_ :: _) _; go_big_quiet_step (fail)); refine wpQuiet_nil ?_)
                      refine tree_one rfl ?_
                      go_wp2_with fail
                      refine (rb_int E0 _ (by omega) (by omega)).mono ?_
                      rintro ex wx14 ⟨sA, aA, nA, cA, tA, bA, mA, dA, rfl, hbx, hA, hAs⟩
                      have HA := Lib.hid hA
                      have HS := Lib.hid hAs.out.here
                      clear hA hAs
                      have hzx := hbx.size
                      have HN := Lib.hid (HN.out.trans (hbx.mono HN.out.size))
                      have hx9 := (hbx.block X9 l9).trans hx9
                      have l9 := Nat.lt_of_lt_of_le l9 hbx.size
                      clear hbx
                      go_wp2_with fail
                      refine tailL_mk HN.out ?_
                      repeat (refine tree_head rfl ?_; (show wpQuiet _ _ _ _ (_ :: _) _; go_big_quiet_step (fail)); refine wpQuiet_nil ?_)
                      refine tree_one rfl ?_
                      go_wp2_with fail
                      refine (rb_from P1 Q1 _ (by omega) (by omega) (by omega) (by omega) (by omega)).mono ?_
                      rintro ex wx15 ⟨sB, aB, nB, cB, tB, bB, mB, dB, rfl, hbx, hB, hBs⟩
                      have HB := Lib.hid hB
                      have HS := Lib.hid hBs.out.here
                      clear hB hBs
                      have hzx := hbx.size
                      have HN := Lib.hid (HN.out.trans (hbx.mono HN.out.size))
                      have HA := Lib.hid (HA.out.below hbx)
                      have hx9 := (hbx.block X9 l9).trans hx9
                      have l9 := Nat.lt_of_lt_of_le l9 hbx.size
                      clear hbx
                      go_wp2_with fail
                      refine tailL_mk HN.out ?_
                      repeat (refine tree_head rfl ?_; (show wpQuiet _ _ _ _ (_ :: _) _; go_big_quiet_step (fail)); refine wpQuiet_nil ?_)
                      refine tree_one rfl ?_
                      go_wp2_with fail
                      refine (rb_mul _ _ _ _ 1 2 _ HA.out HB.out HZ0.out.1 HZ0.out.2 (by omega)).mono ?_
                      rintro ex wx16 ⟨sM, aM, nM, cM, tM, bM, mM, dM, rfl, hbx, hM, hMs⟩
                      have HM := Lib.hid hM
                      have HS := Lib.hid hMs.out.here
                      clear hM hMs
                      have hzx := hbx.size
                      have HN := Lib.hid (HN.out.trans (hbx.mono HN.out.size))
                      have HA := Lib.hid (HA.out.below hbx)
                      have HB := Lib.hid (HB.out.below hbx)
                      have hx9 := (hbx.block X9 l9).trans hx9
                      have l9 := Nat.lt_of_lt_of_le l9 hbx.size
                      clear hbx
                      go_wp2_with fail
                      refine tailL_mk HN.out ?_
                      repeat (refine tree_head rfl ?_; (show wpQuiet _ _ _ _ (_ :: _) _; go_big_quiet_step (fail)); refine wpQuiet_nil ?_)
                      refine tree_one rfl ?_
                      have c90 := cell_of_row _ _ 0 _ _ _ hx9
                      have f90 := frozen_of_row _ _ 0 _ _ hx9
                      have c91 := cell_of_row _ _ 1 _ _ _ hx9
                      have f91 := frozen_of_row _ _ 1 _ _ hx9
                      have c92 := cell_of_row _ _ 2 _ _ _ hx9
                      have f92 := frozen_of_row _ _ 2 _ _ hx9
                      have c93 := cell_of_row _ _ 3 _ _ _ hx9
                      have f93 := frozen_of_row _ _ 3 _ _ hx9
                      simp only [List.getElem?_toArray, List.getElem?_cons_zero, List.getElem?_cons_succ] at c90 c91 c92 c93
                      go_wp2_with fail
                      have HN := Lib.hid (show Below w8.heap.size w8 ((((wx16.setCell ⟨X9, 0, none⟩ (.int .i64 sM)).setCell ⟨X9, 1, none⟩ (.slice aM nM cM)).setCell ⟨X9, 2, none⟩ (.int .i64 tM)).setCell ⟨X9, 3, none⟩ (.slice bM mM dM)) from Below.setCell (Below.setCell (Below.setCell (Below.setCell (HN.out) hNX _) hNX _) hNX _) hNX _)
                      have hx9 : ((((wx16.setCell ⟨X9, 0, none⟩ (.int .i64 sM)).setCell ⟨X9, 1, none⟩ (.slice aM nM cM)).setCell ⟨X9, 2, none⟩ (.int .i64 tM)).setCell ⟨X9, 3, none⟩ (.slice bM mM dM)).heap[X9]? = some (.cells #[.int .i64 sM, .slice aM nM cM, .int .i64 tM, .slice bM mM dM] 101) := blk_set (blk_set (blk_set (blk_set (hx9) 0 (.int .i64 sM)) 1 (.slice aM nM cM)) 2 (.int .i64 tM)) 3 (.slice bM mM dM)
                      refine tailL_mk HN.out ?_
                      repeat (refine tree_head rfl ?_; (show wpQuiet _ _ _ _ (_ :: _) _; go_big_quiet_step (fail)); refine wpQuiet_nil ?_)
                      refine tree_done ?_
                      go_wp2_with fail
                      have HR := Lib.hid (RB.put2 (X := X9) HS.out (fun b hb => by
                        obtain ⟨hX9, hsz9⟩ := HX9.out
                        (try simp only [World.size_drew] at *)
                        omega))
                      go_meet
                      case rel => exact ⟨X9, sM, tM, aM, bM, nM, cM, mM, dM, rfl, Lib.hid hx9, hNX, HR, HN⟩
                  case rest =>
                    obtain ⟨w9, rfl⟩ : ∃ w', w' = wc := ⟨wc, rfl⟩
                    obtain ⟨X, s9, t9, a9, b9, n9, c9, m9, d9, rfl, HX, lX8, HR, HQ⟩ := hcut
                    have hzq := HQ.out.size
                    clear kcE kcS kcP1 kcQ1 kcP0 kcQ0 q0 q1
                    have kcE : w9.cell? ⟨be, oe + j, none⟩ = some (.int .i64 E0) := by rw [cellB HQ.out _ _ lbe]; exact cE8
                    have kcS : w9.cell? ⟨bs, os + j, none⟩ = some (.int .i64 S0) := by rw [cellB HQ.out _ _ lbs]; exact cS8
                    have kcP1 : w9.cell? ⟨bu, ou + (j + 1) * 2, none⟩ = some (.int .i64 P1) := by rw [cellB HQ.out _ _ lbu]; exact cP18
                    have kcQ1 : w9.cell? ⟨bu, ou + (j + 1) * 2 + 1, none⟩ = some (.int .i64 Q1) := by rw [cellB HQ.out _ _ lbu]; exact cQ18
                    have kcP0 : w9.cell? ⟨bu, ou + j * 2, none⟩ = some (.int .i64 P0) := by rw [cellB HQ.out _ _ lbu]; exact cP08
                    have kcQ0 : w9.cell? ⟨bu, ou + j * 2 + 1, none⟩ = some (.int .i64 Q0) := by rw [cellB HQ.out _ _ lbu]; exact cQ08
                    have q0 : w9.cell? ⟨w.heap.size, 0, none⟩ = some (.slice (some ⟨bs, os, none⟩) n c) := by rw [cellB HQ.out _ _ l8]; exact q08
                    have q1 : w9.cell? ⟨w.heap.size, 1, none⟩ = some (.slice (some ⟨be, oe, none⟩) n c1) := by rw [cellB HQ.out _ _ l8]; exact q18
                    have lw1 : bs < w9.heap.size := Nat.lt_of_lt_of_le lbs HQ.out.size
                    have lw2 : be < w9.heap.size := Nat.lt_of_lt_of_le lbe HQ.out.size
                    have lw3 : bu < w9.heap.size := Nat.lt_of_lt_of_le lbu HQ.out.size
                    have lw4 : w.heap.size < w9.heap.size := Nat.lt_of_lt_of_le l8 HQ.out.size
                    have x0 := blk_cell HX.out (i := 0) rfl
                    have x1 := blk_cell HX.out (i := 1) rfl
                    have x2 := blk_cell HX.out (i := 2) rfl
                    have x3 := blk_cell HX.out (i := 3) rfl
                    have f0 := blk_fz HX.out 0
                    have f1 := blk_fz HX.out 1
                    have f2 := blk_fz HX.out 2
                    have f3 := blk_fz HX.out 3
                    have lX := blk_lt HX.out
                    go_wp2_with fail
                    have HN := Lib.hid (Below.refl w9.heap.size w9).drew
                    refine wp_region_laterY (B := w9.heap.size) [0, 1, 2, 3, 4, 5, 6, 8, 9, 10, 11, 13, 14, 15, 16, 17] [7, 12, 18, 19, 20, 21] [22] (by kernel_rfl) (by kernel_rfl) ?_; simp only [List.filterMap_cons, List.filterMap_nil, List.getElem?_cons_zero, List.getElem?_cons_succ]; repeat (show wpQuiet _ _ _ _ (_ :: _) _; go_big_quiet_step (fail))
                    refine wpQuiet_nil ?_
                    have HR := Lib.hid (HR.out.below (Below.refl _ _).drew)
                    have HX := Lib.hid (blk_below HX.out (Below.refl _ _).drew)
                    refine tailY_cons ?_
                    go_wp2_with fail
                    refine (rb_int S0 _ (by omega) (by omega)).mono ?_
                    rintro ex p1 ⟨sA, aA, nA, cA, tA, bA, mA, dA, rfl, hbx, hA, hAs⟩
                    have HA := Lib.hid hA
                    have HS := Lib.hid hAs.out.here
                    clear hA hAs
                    have hzx := hbx.size
                    have HN := Lib.hid (HN.out.trans (hbx.mono HN.out.size))
                    have HR := Lib.hid (HR.out.below hbx)
                    have HX := Lib.hid (blk_below HX.out hbx)
                    clear hbx
                    go_wp2_with fail
                    refine tailL_mk HN.out ?_
                    refine tailY_cons ?_
                    go_wp2_with fail
                    refine (rb_from P1 Q1 _ (by omega) (by omega) (by omega) (by omega) (by omega)).mono ?_
                    rintro ex p2 ⟨sB, aB, nB, cB, tB, bB, mB, dB, rfl, hbx, hB, hBs⟩
                    have HB := Lib.hid hB
                    have HS := Lib.hid hBs.out.here
                    clear hB hBs
                    have hzx := hbx.size
                    have HN := Lib.hid (HN.out.trans (hbx.mono HN.out.size))
                    have HR := Lib.hid (HR.out.below hbx)
                    have HA := Lib.hid (HA.out.below hbx)
                    have HX := Lib.hid (blk_below HX.out hbx)
                    clear hbx
                    go_wp2_with fail
                    refine tailL_mk HN.out ?_
                    refine tailY_cons ?_
                    go_wp2_with fail
                    refine (rb_from P0 Q0 _ (by omega) (by omega) (by omega) (by omega) (by omega)).mono ?_
                    rintro ex p3 ⟨sC, aC, nC, cC, tC, bC, mC, dC, rfl, hbx, hC, hCs⟩
                    have HC := Lib.hid hC
                    have HS := Lib.hid hCs.out.here
                    clear hC hCs
                    have hzx := hbx.size
                    have HN := Lib.hid (HN.out.trans (hbx.mono HN.out.size))
                    have HR := Lib.hid (HR.out.below hbx)
                    have HA := Lib.hid (HA.out.below hbx)
                    have HB := Lib.hid (HB.out.below hbx)
                    have HX := Lib.hid (blk_below HX.out hbx)
                    clear hbx
                    go_wp2_with fail
                    refine tailL_mk HN.out ?_
                    refine tailY_cons ?_
                    go_wp2_with fail
                    refine (rb_sub _ _ _ _ 2 2 _ HB.out HC.out HZ1.out.2.1 HZ1.out.2.2.1 (by omega)).mono ?_
                    rintro ex p4 ⟨sD, aD, nD, cD, tD, bD, mD, dD, rfl, hbx, hD, hDs⟩
                    have HD := Lib.hid hD
                    have HS := Lib.hid hDs.out.here
                    clear hD hDs
                    have hzx := hbx.size
                    have HN := Lib.hid (HN.out.trans (hbx.mono HN.out.size))
                    have HR := Lib.hid (HR.out.below hbx)
                    have HA := Lib.hid (HA.out.below hbx)
                    have HB := Lib.hid (HB.out.below hbx)
                    have HC := Lib.hid (HC.out.below hbx)
                    have HX := Lib.hid (blk_below HX.out hbx)
                    clear hbx
                    go_wp2_with fail
                    refine tailL_mk HN.out ?_
                    refine tailY_cons ?_
                    go_wp2_with fail
                    refine (rb_mul _ _ _ _ 1 5 _ HA.out HD.out HZ1.out.1 HZ1.out.2.2.2.1 (by omega)).mono ?_
                    rintro ex p5 ⟨sM, aM, nM, cM, tM, bM, mM, dM, rfl, hbx, hM, hMs⟩
                    have HM := Lib.hid hM
                    have HS := Lib.hid hMs.out.here
                    clear hM hMs
                    have hzx := hbx.size
                    have HN := Lib.hid (HN.out.trans (hbx.mono HN.out.size))
                    have HR := Lib.hid (HR.out.below hbx)
                    have HA := Lib.hid (HA.out.below hbx)
                    have HB := Lib.hid (HB.out.below hbx)
                    have HC := Lib.hid (HC.out.below hbx)
                    have HD := Lib.hid (HD.out.below hbx)
                    have HX := Lib.hid (blk_below HX.out hbx)
                    clear hbx
                    go_wp2_with fail
                    refine tailL_mk HN.out ?_
                    refine tailY_cons ?_
                    go_wp2_with fail
                    refine (rb_add _ _ _ _ 3 6 _ HR.out HM.out HZ1.out.2.2.2.2.1 HZ1.out.2.2.2.2.2 (by omega)).mono ?_
                    rintro ex p6 ⟨sS, aS, nS, cS, tS, bS, mS, dS, rfl, hbx, hS, hSs⟩
                    have HS := Lib.hid hS
                    have HS := Lib.hid hSs.out.here
                    clear hS hSs
                    have hzx := hbx.size
                    have HN := Lib.hid (HN.out.trans (hbx.mono HN.out.size))
                    have HR := Lib.hid (HR.out.below hbx)
                    have HA := Lib.hid (HA.out.below hbx)
                    have HB := Lib.hid (HB.out.below hbx)
                    have HC := Lib.hid (HC.out.below hbx)
                    have HD := Lib.hid (HD.out.below hbx)
                    have HM := Lib.hid (HM.out.below hbx)
                    have HX := Lib.hid (blk_below HX.out hbx)
                    clear hbx
                    go_wp2_with fail
                    refine tailL_mk HN.out ?_
                    refine tailY_ends ?_
                    clear kcE kcS kcP1 kcQ1 kcP0 kcQ0 q0 q1 HR
                    have x0 := blk_cell HX.out (i := 0) rfl
                    have x1 := blk_cell HX.out (i := 1) rfl
                    have x2 := blk_cell HX.out (i := 2) rfl
                    have x3 := blk_cell HX.out (i := 3) rfl
                    have f0 := blk_fz HX.out 0
                    have f1 := blk_fz HX.out 1
                    have f2 := blk_fz HX.out 2
                    have f3 := blk_fz HX.out 3
                    have lX := blk_lt HX.out
                    refine ends_cons ?_
                    go_wp2_with fail
                    refine tailZ_end ?_
                    refine ends_nil ?_
                    have hX9 := blk_set (blk_set (blk_set (blk_set HX.out 0 (.int .i64 sS)) 1 (.slice aS nS cS)) 2 (.int .i64 tS)) 3 (.slice bS mS dS)
                    have hRX := RB.put2 (X := X) HS.out (fun b hb => by (try simp only [World.size_drew] at *); omega)
                    have hNX : Below w8.heap.size w8 ((((p6.setCell ⟨X, 0, none⟩ (.int .i64 sS)).setCell ⟨X, 1, none⟩ (.slice aS nS cS)).setCell ⟨X, 2, none⟩ (.int .i64 tS)).setCell ⟨X, 3, none⟩ (.slice bS mS dS)) := Below.setCell (Below.setCell (Below.setCell (Below.setCell (HQ.out.trans (HN.out.mono HQ.out.size)) lX8 _) lX8 _) lX8 _) lX8 _
                    clear x0 x1 x2 x3 f0 f1 f2 f3 lX HX HS
                    generalize hW : (((p6.setCell ⟨X, 0, none⟩ (.int .i64 sS)).setCell ⟨X, 1, none⟩ (.slice aS nS cS)).setCell ⟨X, 2, none⟩ (.int .i64 tS)).setCell ⟨X, 3, none⟩ (.slice bS mS dS) = wf at *
                    have HX := Lib.hid (show wf.heap[X]? = some (.cells #[.int .i64 sS, .slice aS nS cS, .int .i64 tS, .slice bS mS dS] 101) from hX9)
                    have HR := Lib.hid hRX
                    have HQ := Lib.hid hNX
                    clear hW hX9 hRX hNX
                    have hzf := HQ.out.size
                    have x0 := blk_cell HX.out (i := 0) rfl
                    have x1 := blk_cell HX.out (i := 1) rfl
                    have x2 := blk_cell HX.out (i := 2) rfl
                    have x3 := blk_cell HX.out (i := 3) rfl
                    have f0 := blk_fz HX.out 0
                    have f1 := blk_fz HX.out 1
                    have f2 := blk_fz HX.out 2
                    have f3 := blk_fz HX.out 3
                    have lX := blk_lt HX.out
                    go_wp2_with fail
                    refine (rb_sign _ _ _ HR.out).mono ?_
                    rintro e30 wz ⟨rfl, hbz⟩
                    have HQz := Lib.hid (HQ.out.trans (hbz.mono HQ.out.size))
                    clear hbz x0 x1 x2 x3 f0 f1 f2 f3 lX HX HR
                    go_wp2_with fail
                    go_meet
                    case rel => exact ⟨by rw [HHR.out, HRS.out], HQz⟩
              · obtain rfl : n = j + 1 := by omega
                have hg : g = true := by
                  cases g
                  · unfold lastOf at hLg; simp at hLg; omega
                  · rfl
                subst hg
                have HV := Lib.hid (show H = (P1 == 0 && Q1 == 1) by rw [HH.out, hP1, hQ1]; unfold hold; rw [if_neg (by omega), HLD.out.hL, if_pos (by omega)])
                have t1 : ((j : Int) + 1 == ((j + 1 : Nat) : Int)) = true := by simp
                have j2 : (j : Int) + 1 < (j : Int) + 1 + 1 := by omega
                clear hP1 hQ1 hLg hLn
                cases hx : (P1 == 0) <;> cases hy : (Q1 == 1)
                all_goals
                  go_wp2_with fail
                  refine later_all (by kernel_rfl) (by kernel_rfl) ?_; repeat go_big_quiet_step(refine calls_later (whole_any 0 _))
                  refine wpQuiet_nil ?_; intro w9 hb9
                  go_wp2_with fail
                  go_meet
                  case rel => exact ⟨by rw [HV.out, hx, hy]; rfl, Lib.hid hb9⟩
          case rest =>
            obtain ⟨w9, rfl⟩ : ∃ w', w' = wc := ⟨wc, rfl⟩
            obtain ⟨rfl, hN⟩ := hcut
            have HB9 := Lib.hid (HB68.out.trans (hN.out.mono hz8))
            have HBz := Lib.hid (HB8.out.trans (hN.out.mono HB8.out.size))
            clear hN
            cases H
            · go_wp2
              go_ret2
              exact ⟨HBz.out, _, _, rfl, .inr (.inl ⟨HFZ.out, k, hlt, HHO.out, HH.out.symm, rfl, rfl⟩)⟩
            · go_wp2
              go_roundw
              case rel => exact ⟨k + 1, by go_num, by omega, Lib.hid (fun i hi => by
                rcases Nat.lt_or_ge i k with h | h
                · exact HHO.out i h
                · rw [show i = k by omega]; exact HH.out.symm), HB9⟩
              case measure => simp [intOf]; omega
        · obtain rfl : k = n + 1 := by omega
          go_wp2
          go_ret2
          exact ⟨HB8.out, _, _, rfl, .inr (.inr ⟨HFZ.out, HHO.out, rfl, rfl⟩)⟩
end Go.Proofs.YtbjgklifmillgaaGreat
