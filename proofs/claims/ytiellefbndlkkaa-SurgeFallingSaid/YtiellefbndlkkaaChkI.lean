/- The acceptance of voltages. -/
import Derived.Test.YtiellefbndlkkaaFallLib
namespace Go.Proofs.Ytiellefbndlkkaa
open Go.RowKit
set_option linter.unusedVariables false

/-- A small fraction in lowest terms. -/
def FrOk (p : Int × Int) : Prop := 0 < p.2 ∧ gc p.1 p.2 = 1 ∧ -1000000000 ≤ p.1 ∧ p.1 ≤ 1000000000 ∧ p.2 ≤ 1000000000
set_option maxHeartbeats 4000000 in
set_option maxRecDepth 100000 in
theorem checkInitial_any (s e t : List Int) (u : List (Int × Int)) (a a1 a2 a3 : Option Addr) (n c n1 c1 n2 c2 m c3 : Nat) (g : Bool) (w : World) (hs : IntsR w a n s) (he : IntsR w a1 n1 e) (ht : IntsR w a2 n2 t) (hu : PairsR w a3 m u)
    (h0 : ladErr s e t = 0) (hm : m = n + 1) (hok : ∀ i, i < m → FrOk (gp u i)) :
    Calls Try.prog 77 #[.agg #[.slice a n c, .slice a1 n1 c1, .slice a2 n2 c2, .bool g], .slice a3 m c3] w fun e' w' => ((∀ i, i < m → hold s e u g n i = true) → e' = .returned (.tuple #[.int .i64 0, .int .i64 0])) ∧ ((∃ i, i < m ∧ hold s e u g n i = false) → ∃ j : Int, e' = .returned (.tuple #[.int .i64 j, .int .i64 19])) ∧ Below w.heap.size w w' := by
  obtain ⟨hl0, hel, htl, h6, bs, be, _⟩ := ladErr_zero h0
  have HS := Lib.hid (fun (w' : World) (hb' : Below w.heap.size w w') => checkLadder_any s e t a a1 a2 n c n1 c1 n2 c2 g w' (hs.below hb') (he.below hb') (ht.below hb'))
  rw [h0] at HS
  have hsl := hs.len
  rw [hsl] at hl0 h6 hel htl
  rw [he.len] at hel
  rw [ht.len] at htl
  obtain rfl : n = n1 := hel.symm
  obtain rfl : n = n2 := htl.symm
  have HCH := Lib.hid (fun (w' : World) => chainOf_any a a1 a2 n c n c1 n c2 g w')
  obtain ⟨b, o, rfl, hb, hcu⟩ := hu.addr (by omega)
  have HCU := Lib.hid hcu
  have HOK := Lib.hid hok
  have HFE := Lib.hid (fun (i : Nat) (hi : i < m) (w' : World) => fracErr_ok (gp u i).1 (gp u i).2 w' (hok i hi).1 (hok i hi).2.1 (hok i hi).2.2.1 (hok i hi).2.2.2.1 (hok i hi).2.2.2.2)
  have HZ0 := Lib.hid (fun (w' : World) (hb' : Below w.heap.size w w') => holds_zero s e u a a1 (some ⟨b, o, none⟩) n c n c1 m c3 g w' (hu.below hb') (by omega))
  have HZP := Lib.hid (fun (k : Nat) (hk : k < n) (w' : World) (hb' : Below w.heap.size w w') => holds_pos s e u a a1 (some ⟨b, o, none⟩) n c c1 m c3 k g w' (hs.below hb') (he.below hb') (hu.below hb') hm hk h6 bs be (fun i hi => by have := hok i hi; unfold FrOk at this; omega))
  have hme : ((m : Int) == (n : Int) + 1) = true := by simp; omega
  have hm7 : m ≤ 7 := by omega
  have HM := Lib.hid hm
  clear hs he ht hu h0 hok bs be hsl hcu hm
  go_enter Try.func77, Try.ntmps77
  go_wp2
  refine later_of_eq 9 (by kernel_rfl) (by kernel_rfl) ?_; simp only [List.take_succ_cons, List.take_zero, List.drop_succ_cons, List.drop_zero]; repeat go_big_quiet_step (exact calls_later (HS.out _ (Below.trans (by (repeat' (first | (with_reducible exact Below.refl _ _) | (with_reducible assumption) | (with_reducible refine Below.drewN ?_ _) | (with_reducible refine Below.alloc ?_ ?_ _) | (with_reducible refine Below.drew ?_) | (with_reducible refine Below.setCell ?_ ?_ _) | (with_reducible refine Below.step (by assumption) ?_ ?_) | (with_reducible exact And.left (by assumption)) | go_size))) (Below.mono (Later.below _) (by simp)))))
  refine wpQuiet_nil ?_; intro w5 hb5
  have hz5 := hb5.size
  simp only [World.size_alloc] at hz5
  have q0 : w5.cell? ⟨w.heap.size, 0, none⟩ = some (.slice a n c) := by { rw [cellB hb5 _ _ (by first | (simp; done) | (simp; omega) | omega)]; all_goals (first | assumption | go_simp) }; have q1 : w5.cell? ⟨w.heap.size, 1, none⟩ = some (.slice a1 n c1) := by { rw [cellB hb5 _ _ (by first | (simp; done) | (simp; omega) | omega)]; all_goals (first | assumption | go_simp) }; have q2 : w5.cell? ⟨w.heap.size, 2, none⟩ = some (.slice a2 n c2) := by { rw [cellB hb5 _ _ (by first | (simp; done) | (simp; omega) | omega)]; all_goals (first | assumption | go_simp) }; have q3 : w5.cell? ⟨w.heap.size, 3, none⟩ = some (.bool g) := by { rw [cellB hb5 _ _ (by first | (simp; done) | (simp; omega) | omega)]; all_goals (first | assumption | go_simp) }; have l0 : w.heap.size < w5.heap.size := by { omega }
  have HB5 := Lib.hid (show Below w.heap.size w w5 by (repeat' (first | (with_reducible exact Below.refl _ _) | (with_reducible assumption) | (with_reducible refine Below.drewN ?_ _) | (with_reducible refine Below.alloc ?_ ?_ _) | (with_reducible refine Below.drew ?_) | (with_reducible refine Below.setCell ?_ ?_ _) | (with_reducible refine Below.step (by assumption) ?_ ?_) | (with_reducible exact And.left (by assumption)) | go_size)))
  clear hb5 HS
  go_wp2_with fail
  refine (unless_any _ _ _).mono ?_
  rintro e6 w6 ⟨rfl, rfl⟩
  go_wp2_with fail
  refine (first2 _ _ _ _ _ _ (by rfl) (by simp)).mono ?_
  rintro e7 w7 ⟨rfl, hw7⟩
  have hb7 : Below w5.heap.size w5 w7 := by rw [← hw7]; (repeat' (first | (with_reducible exact Below.refl _ _) | (with_reducible assumption) | (with_reducible refine Below.drewN ?_ _) | (with_reducible refine Below.alloc ?_ ?_ _) | (with_reducible refine Below.drew ?_) | (with_reducible refine Below.setCell ?_ ?_ _) | (with_reducible refine Below.step (by assumption) ?_ ?_) | (with_reducible exact And.left (by assumption)) | go_size))
  have hz7 := hb7.size
  have q0c : w7.cell? ⟨w.heap.size, 0, none⟩ = some (.slice a n c) := by { rw [cellB hb7 _ _ (by first | (simp; done) | (simp; omega) | omega)]; all_goals (first | assumption | go_simp) }; have q1c : w7.cell? ⟨w.heap.size, 1, none⟩ = some (.slice a1 n c1) := by { rw [cellB hb7 _ _ (by first | (simp; done) | (simp; omega) | omega)]; all_goals (first | assumption | go_simp) }; have q2c : w7.cell? ⟨w.heap.size, 2, none⟩ = some (.slice a2 n c2) := by { rw [cellB hb7 _ _ (by first | (simp; done) | (simp; omega) | omega)]; all_goals (first | assumption | go_simp) }; have q3c : w7.cell? ⟨w.heap.size, 3, none⟩ = some (.bool g) := by { rw [cellB hb7 _ _ (by first | (simp; done) | (simp; omega) | omega)]; all_goals (first | assumption | go_simp) }; have l0c : w.heap.size < w7.heap.size := by { omega }
  have HB7 := Lib.hid (HB5.out.trans (hb7.mono HB5.out.size))
  clear hb7 hw7 q0 q1 q2 q3 l0 HB5 hme
  rw [show firstErr [0, unl true 10] = 0 from rfl]
  go_wp2_with fail
  go_loopw [29] (fun i wr => ∃ k : Nat, i = .int .i64 k ∧ k ≤ m ∧ Hid (Below w7.heap.size w7 wr)) (fun i _ => m - (intOf i).toNat)
  case atStart => exact ⟨0, rfl, Nat.zero_le _, Lib.hid (Below.refl _ _)⟩
  case round =>
    obtain ⟨k, rfl, hk, hBr⟩ := hrel
    have hbr := hBr.out
    have hzr := hbr.size
    have q0 : wr.cell? ⟨w.heap.size, 0, none⟩ = some (.slice a n c) := by { rw [cellB hbr _ _ (by first | (simp; done) | (simp; omega) | omega)]; all_goals (first | assumption | go_simp) }; have q1 : wr.cell? ⟨w.heap.size, 1, none⟩ = some (.slice a1 n c1) := by { rw [cellB hbr _ _ (by first | (simp; done) | (simp; omega) | omega)]; all_goals (first | assumption | go_simp) }; have q2 : wr.cell? ⟨w.heap.size, 2, none⟩ = some (.slice a2 n c2) := by { rw [cellB hbr _ _ (by first | (simp; done) | (simp; omega) | omega)]; all_goals (first | assumption | go_simp) }; have q3 : wr.cell? ⟨w.heap.size, 3, none⟩ = some (.bool g) := by { rw [cellB hbr _ _ (by first | (simp; done) | (simp; omega) | omega)]; all_goals (first | assumption | go_simp) }; have l0 : w.heap.size < wr.heap.size := by { omega }
    have HBw := Lib.hid (HB7.out.trans (hbr.mono HB7.out.size))
    clear hbr
    rcases Nat.lt_or_ge k m with hlt | hge
    · obtain ⟨P, hP⟩ : ∃ P, P = (gp u k).1 := ⟨_, rfl⟩
      obtain ⟨Q, hQ⟩ : ∃ P, P = (gp u k).2 := ⟨_, rfl⟩
      have cP : wr.cell? ⟨b, o + k * 2, none⟩ = some (.int .i64 P) := by rw [cellB HBw.out _ _ hb, hP]; exact (HCU.out k hlt).1
      have cQ : wr.cell? ⟨b, o + k * 2 + 1, none⟩ = some (.int .i64 Q) := by rw [cellB HBw.out _ _ hb, hQ]; exact (HCU.out k hlt).2
      have hfe := HFE.out k hlt
      rw [← hP, ← hQ] at hfe
      have HFK := Lib.hid hfe
      have i0 : (0 : Int) ≤ (k : Int) := by omega
      have i1 : (k : Int) < (m : Int) := by omega
      clear hP hQ hfe q0c q1c q2c q3c l0c
      go_wp2_with fail
      refine (HFK.out _).mono ?_
      rintro e8 w8 ⟨rfl, hb8⟩
      have HB8 := Lib.hid (hBr.out.trans ((show Below wr.heap.size wr w8 from Below.trans (by (repeat' (first | (with_reducible exact Below.refl _ _) | (with_reducible assumption) | (with_reducible refine Below.drewN ?_ _) | (with_reducible refine Below.alloc ?_ ?_ _) | (with_reducible refine Below.drew ?_) | (with_reducible refine Below.setCell ?_ ?_ _) | (with_reducible refine Below.step (by assumption) ?_ ?_) | (with_reducible exact And.left (by assumption)) | go_size))) (hb8.mono (by simp))).mono hzr))
      clear hb8
      go_wp2
      go_roundw
      case rel => exact ⟨k + 1, by go_num, by omega, HB8⟩
      case measure => simp [intOf]; omega
    · obtain rfl : m = k := by omega
      go_wp2_with fail
      refine (HCH.out _).mono ?_
      rintro e8 w8 ⟨rfl, hb8⟩
      have HB8 := Lib.hid (HBw.out.trans (hb8.mono HBw.out.size))
      have hz8 := hb8.size
      clear hb8 q0 q1 q2 q3 l0 q0c q1c q2c q3c l0c hBr
      go_wp2_with fail
      generalize hW : w8.alloc _ = w9
      have hb9 : Below w8.heap.size w8 w9 := by rw [← hW]; (repeat' (first | (with_reducible exact Below.refl _ _) | (with_reducible assumption) | (with_reducible refine Below.drewN ?_ _) | (with_reducible refine Below.alloc ?_ ?_ _) | (with_reducible refine Below.drew ?_) | (with_reducible refine Below.setCell ?_ ?_ _) | (with_reducible refine Below.step (by assumption) ?_ ?_) | (with_reducible exact And.left (by assumption)) | go_size))
      have x0 : w9.cell? ⟨w8.heap.size, 0, none⟩ = some (.slice a n c) := by { rw [← hW]; clear hW; go_simp }
      have x1 : w9.cell? ⟨w8.heap.size, 1, none⟩ = some (.slice a1 n c1) := by { rw [← hW]; clear hW; go_simp }
      have x2 : w9.cell? ⟨w8.heap.size, 2, none⟩ = some (.bool g) := by { rw [← hW]; clear hW; go_simp }
      have lx : w8.heap.size < w9.heap.size := by { rw [← hW]; simp }
      have HB9 := Lib.hid (HB8.out.trans (hb9.mono HB8.out.size))
      clear hW hb9
      generalize w8.heap.size = X10 at *
      go_loopw [45] (fun i wr => ∃ k : Nat, i = .int .i64 k ∧ k ≤ m ∧ Hid (∀ i, i < k → hold s e u g n i = true) ∧ Hid (Below w9.heap.size w9 wr)) (fun i _ => m - (intOf i).toNat)
      case atStart => exact ⟨0, rfl, Nat.zero_le _, Lib.hid (fun i hi => by omega), Lib.hid (Below.refl _ _)⟩
      case round =>
        obtain ⟨k, rfl, hk2, hHo, hBr⟩ := hrel
        have hbr := hBr.out
        have hzr := hbr.size
        have x0' : wr.cell? ⟨X10, 0, none⟩ = some (.slice a n c) := by { rw [cellB hbr _ _ (by first | (simp; done) | (simp; omega) | omega)]; all_goals (first | assumption | go_simp) }; have x1' : wr.cell? ⟨X10, 1, none⟩ = some (.slice a1 n c1) := by { rw [cellB hbr _ _ (by first | (simp; done) | (simp; omega) | omega)]; all_goals (first | assumption | go_simp) }; have x2' : wr.cell? ⟨X10, 2, none⟩ = some (.bool g) := by { rw [cellB hbr _ _ (by first | (simp; done) | (simp; omega) | omega)]; all_goals (first | assumption | go_simp) }; have lx' : X10 < wr.heap.size := by { omega }
        have HBw := Lib.hid (HB9.out.trans (hbr.mono HB9.out.size))
        clear hbr x0 x1 x2 lx
        rcases Nat.lt_or_ge k m with hlt | hge
        · have i1 : (k : Int) < (m : Int) := by omega
          obtain ⟨H, hH⟩ : ∃ H, H = hold s e u g n k := ⟨_, rfl⟩
          have hcall : ∀ (w' : World), Below w.heap.size w w' → Calls Try.prog 130 #[.agg #[.slice a n c, .slice a1 n c1, .bool g], .slice (some ⟨b, o, none⟩) m c3, .int .i64 (k : Int)] w' fun e' w'' => e' = .returned (.bool H) ∧ Below w'.heap.size w' w'' := by
            intro w' hw'
            rw [hH]
            rcases k with _ | k
            · rw [show ((0 : Nat) : Int) = 0 from rfl]
              exact HZ0.out w' hw'
            · rw [show ((k + 1 : Nat) : Int) = (k : Int) + 1 by omega]
              exact HZP.out k (by have := HM.out; omega) w' hw'
          have HCA := Lib.hid hcall
          have HHK := Lib.hid hH
          clear hH hcall
          go_wp2_with fail
          refine (HCA.out _ HBw.out).mono ?_
          rintro e10 wa ⟨rfl, hba⟩
          have HBa := Lib.hid (hBr.out.trans (hba.mono hzr))
          have HBz := Lib.hid (HBw.out.trans (hba.mono HBw.out.size))
          clear hba
          cases H
          · go_wp2
            go_ret2
            refine ⟨fun hall => ?_, fun _ => ⟨_, rfl⟩, HBz.out⟩
            have := hall k hlt
            rw [← HHK.out] at this
            exact absurd this (by simp)
          · go_wp2
            go_roundw
            case rel => exact ⟨k + 1, by go_num, by omega, Lib.hid (fun i hi => by
              rcases Nat.lt_or_ge i k with h | h
              · exact hHo.out i h
              · rw [show i = k by omega]; exact HHK.out.symm), HBa⟩
            case measure => simp [intOf]; omega
        · obtain rfl : m = k := by omega
          go_wp2
          go_ret2
          refine ⟨fun _ => rfl, fun ⟨i, hi, hf⟩ => ?_, HBw.out⟩
          rw [hHo.out i hi] at hf
          exact absurd hf (by simp)
end Go.Proofs.Ytiellefbndlkkaa
