import Derived.Test.YtbjgklifmillgaaGreatFallLib
import Derived.Test.YtbjgklifmillgaaGreatMImp
/- The acceptance of voltages. -/
namespace Go.Proofs.YtbjgklifmillgaaGreat
open Go.RowKit
set_option linter.unusedVariables false

/-- A small fraction in lowest terms. -/
def FrOk (p : Int × Int) : Prop := 0 < p.2 ∧ gc p.1 p.2 = 1 ∧ -1000000000 ≤ p.1 ∧ p.1 ≤ 1000000000 ∧ p.2 ≤ 1000000000
set_option maxHeartbeats 4000000 in
set_option maxRecDepth 100000 in
theorem checkInitial_any (s e t : List Int) (u : List (Int × Int)) (a a1 a2 a3 : Option Addr) (n c n1 c1 n2 c2 m c3 : Nat) (g : Bool) (w : World) (hs : IntsR w a n s) (he : IntsR w a1 n1 e) (ht : IntsR w a2 n2 t) (hu : PairsR w a3 m u)
    (h0 : ladErr s e t = 0) (hm : m = n + 1) (hok : ∀ i, i < m → FrOk (gp u i)) :
    Calls Tryz.prog 15 #[.agg #[.slice a n c, .slice a1 n1 c1, .slice a2 n2 c2, .bool g], .slice a3 m c3] w fun e' w' => ((∀ i, i < m → hold s e u g n i = true) → e' = .returned (.tuple #[.int .i64 0, .int .i64 0])) ∧ ((∃ i, i < m ∧ hold s e u g n i = false) → ∃ j : Int, e' = .returned (.tuple #[.int .i64 j, .int .i64 19])) ∧ Below w.heap.size w w' := by
  obtain ⟨hl0, hel, htl, h6, bs, be, _⟩ := ladErr_zero h0
  have HS := Lib.hid (fun (w' : World) (hb' : Below w.heap.size w w') => checkLadder_any s e t a a1 a2 n c n1 c1 n2 c2 g w' (hs.below hb') (he.below hb') (ht.below hb'))
  rw [h0] at HS
  have hsl := hs.len
  rw [hsl] at hl0 h6 hel htl
  rw [he.len] at hel
  rw [ht.len] at htl
  obtain rfl : n = n1 := hel.symm
  obtain rfl : n = n2 := htl.symm
  have HCH := Lib.hid (fun (w' : World) => chainOf_any a a1 a2 n c n c1 n c2 g w')
  obtain ⟨b, o, rfl, hb, hcu⟩ := hu.addr (by omega)
  have HCU := Lib.hid hcu
  have HOK := Lib.hid hok
  have HFE := Lib.hid (fun (i : Nat) (hi : i < m) (w' : World) => fracErr_ok (gp u i).1 (gp u i).2 w' (hok i hi).1 (hok i hi).2.1 (hok i hi).2.2.1 (hok i hi).2.2.2.1 (hok i hi).2.2.2.2)
  have HZ0 := Lib.hid (fun (w' : World) (hb' : Below w.heap.size w w') => holds_zero s e u a a1 (some ⟨b, o, none⟩) n c n c1 m c3 g w' (hu.below hb') (by omega))
  have HZP := Lib.hid (fun (k : Nat) (hk : k < n) (w' : World) (hb' : Below w.heap.size w w') => holds_pos s e u a a1 (some ⟨b, o, none⟩) n c c1 m c3 k g w' (hs.below hb') (he.below hb') (hu.below hb') hm hk h6 bs be (fun i hi => by have := hok i hi; unfold FrOk at this; omega))
  have hme : ((m : Int) == (n : Int) + 1) = true := by simp; omega
  have hm7 : m ≤ 7 := by omega
  have HM := Lib.hid hm
  clear hs he ht hu h0 hok bs be hsl hcu hm
  go_enter Tryz.func15, Tryz.ntmps15
  go_wp2
  refine later_of_eq 9 (by kernel_rfl) (by kernel_rfl) ?_; simp only [List.take_succ_cons, List.take_zero, List.drop_succ_cons, List.drop_zero]; repeat go_big_quiet_step (exact calls_later (HS.out _ (Below.trans (by (repeat' (first | (with_reducible exact Below.refl _ _) | (with_reducible assumption) | (with_reducible refine Below.drewN ?_ _) | (with_reducible refine Below.alloc ?_ ?_ _) | (with_reducible refine Below.drew ?_) | (with_reducible refine Below.setCell ?_ ?_ _) | (with_reducible refine Below.step (by assumption) ?_ ?_) | (with_reducible exact And.left (by assumption)) | go_size))) (Below.mono (Later.below _) (by simp)))))
  refine wpQuiet_nil ?_; intro w5 hb5
  have hz5 := hb5.size
  simp only [World.size_alloc] at hz5
  have q0 : w5.cell? ⟨w.heap.size, 0, none⟩ = some (.slice a n c) := by { rw [cellB hb5 _ _ (by first | (simp; done) | (simp; omega) | omega)]; all_goals (first | assumption | go_simp) }; have q1 : w5.cell? ⟨w.heap.size, 1, none⟩ = some (.slice a1 n c1) := by { rw [cellB hb5 _ _ (by first | (simp; done) | (simp; omega) | omega)]; all_goals (first | assumption | go_simp) }; have q2 : w5.cell? ⟨w.heap.size, 2, none⟩ = some (.slice a2 n c2) := by { rw [cellB hb5 _ _ (by first | (simp; done) | (simp; omega) | omega)]; all_goals (first | assumption | go_simp) }; have q3 : w5.cell? ⟨w.heap.size, 3, none⟩ = some (.bool g) := by { rw [cellB hb5 _ _ (by first | (simp; done) | (simp; omega) | omega)]; all_goals (first | assumption | go_simp) }; have l0 : w.heap.size < w5.heap.size := by { omega }
  have HB5 := Lib.hid (show Below w.heap.size w w5 by (repeat' (first | (with_reducible exact Below.refl _ _) | (with_reducible assumption) | (with_reducible refine Below.drewN ?_ _) | (with_reducible refine Below.alloc ?_ ?_ _) | (with_reducible refine Below.drew ?_) | (with_reducible refine Below.setCell ?_ ?_ _) | (with_reducible refine Below.step (by assumption) ?_ ?_) | (with_reducible exact And.left (by assumption)) | go_size)))
  clear hb5 HS
  go_wp2_with fail
  refine (unless_any _ _ _).mono ?_
  rintro e6 w6 ⟨rfl, rfl⟩
  go_wp2_with fail
  refine (first2 _ _ _ _ _ _ (by rfl) (by simp)).mono ?_
  rintro e7 w7 ⟨rfl, hw7⟩
  have hb7 : Below w5.heap.size w5 w7 := by rw [← hw7]; (repeat' (first | (with_reducible exact Below.refl _ _) | (with_reducible assumption) | (with_reducible refine Below.drewN ?_ _) | (with_reducible refine Below.alloc ?_ ?_ _) | (with_reducible refine Below.drew ?_) | (with_reducible refine Below.setCell ?_ ?_ _) | (with_reducible refine Below.step (by assumption) ?_ ?_) | (with_reducible exact And.left (by assumption)) | go_size))
  have hz7 := hb7.size
  have q0c : w7.cell? ⟨w.heap.size, 0, none⟩ = some (.slice a n c) := by { rw [cellB hb7 _ _ (by first | (simp; done) | (simp; omega) | omega)]; all_goals (first | assumption | go_simp) }; have q1c : w7.cell? ⟨w.heap.size, 1, none⟩ = some (.slice a1 n c1) := by { rw [cellB hb7 _ _ (by first | (simp; done) | (simp; omega) | omega)]; all_goals (first | assumption | go_simp) }; have q2c : w7.cell? ⟨w.heap.size, 2, none⟩ = some (.slice a2 n c2) := by { rw [cellB hb7 _ _ (by first | (simp; done) | (simp; omega) | omega)]; all_goals (first | assumption | go_simp) }; have q3c : w7.cell? ⟨w.heap.size, 3, none⟩ = some (.bool g) := by { rw [cellB hb7 _ _ (by first | (simp; done) | (simp; omega) | omega)]; all_goals (first | assumption | go_simp) }; have l0c : w.heap.size < w7.heap.size := by { omega }
  have HB7 := Lib.hid (HB5.out.trans (hb7.mono HB5.out.size))
  clear hb7 hw7 q0 q1 q2 q3 l0 HB5 hme
  rw [show firstErr [0, unl true 10] = 0 from rfl]
  go_wp2_with fail
  go_loopw [29] (fun i wr => ∃ k : Nat, i = .int .i64 k ∧ k ≤ m ∧ Hid (Below w7.heap.size w7 wr)) (fun i _ => m - (intOf i).toNat)
  case atStart => exact ⟨0, rfl, Nat.zero_le _, Lib.hid (Below.refl _ _)⟩
  case round =>
    obtain ⟨k, rfl, hk, hBr⟩ := hrel
    have hbr := hBr.out
    have hzr := hbr.size
    have q0 : wr.cell? ⟨w.heap.size, 0, none⟩ = some (.slice a n c) := by { rw [cellB hbr _ _ (by first | (simp; done) | (simp; omega) | omega)]; all_goals (first | assumption | go_simp) }; have q1 : wr.cell? ⟨w.heap.size, 1, none⟩ = some (.slice a1 n c1) := by { rw [cellB hbr _ _ (by first | (simp; done) | (simp; omega) | omega)]; all_goals (first | assumption | go_simp) }; have q2 : wr.cell? ⟨w.heap.size, 2, none⟩ = some (.slice a2 n c2) := by { rw [cellB hbr _ _ (by first | (simp; done) | (simp; omega) | omega)]; all_goals (first | assumption | go_simp) }; have q3 : wr.cell? ⟨w.heap.size, 3, none⟩ = some (.bool g) := by { rw [cellB hbr _ _ (by first | (simp; done) | (simp; omega) | omega)]; all_goals (first | assumption | go_simp) }; have l0 : w.heap.size < wr.heap.size := by { omega }
    have HBw := Lib.hid (HB7.out.trans (hbr.mono HB7.out.size))
    clear hbr
    rcases Nat.lt_or_ge k m with hlt | hge
    · obtain ⟨P, hP⟩ : ∃ P, P = (gp u k).1 := ⟨_, rfl⟩
      obtain ⟨Q, hQ⟩ : ∃ P, P = (gp u k).2 := ⟨_, rfl⟩
      have cP : wr.cell? ⟨b, o + k * 2, none⟩ = some (.int .i64 P) := by rw [cellB HBw.out _ _ hb, hP]; exact (HCU.out k hlt).1
      have cQ : wr.cell? ⟨b, o + k * 2 + 1, none⟩ = some (.int .i64 Q) := by rw [cellB HBw.out _ _ hb, hQ]; exact (HCU.out k hlt).2
      have hfe := HFE.out k hlt
      rw [← hP, ← hQ] at hfe
      have HFK := Lib.hid hfe
      have i0 : (0 : Int) ≤ (k : Int) := by omega
      have i1 : (k : Int) < (m : Int) := by omega
      clear hP hQ hfe q0c q1c q2c q3c l0c
      go_wp2_with fail
      refine (HFK.out _).mono ?_
      rintro e8 w8 ⟨rfl, hb8⟩
      have HB8 := Lib.hid (hBr.out.trans ((show Below wr.heap.size wr w8 from Below.trans (by (repeat' (first | (with_reducible exact Below.refl _ _) | (with_reducible assumption) | (with_reducible refine Below.drewN ?_ _) | (with_reducible refine Below.alloc ?_ ?_ _) | (with_reducible refine Below.drew ?_) | (with_reducible refine Below.setCell ?_ ?_ _) | (with_reducible refine Below.step (by assumption) ?_ ?_) | (with_reducible exact And.left (by assumption)) | go_size))) (hb8.mono (by simp))).mono hzr))
      clear hb8
      go_wp2
      go_roundw
      case rel => exact ⟨k + 1, by go_num, by omega, HB8⟩
      case measure => simp [intOf]; omega
    · obtain rfl : m = k := by omega
      go_wp2_with fail
      refine (HCH.out _).mono ?_
      rintro e8 w8 ⟨rfl, hb8⟩
      have HB8 := Lib.hid (HBw.out.trans (hb8.mono HBw.out.size))
      have hz8 := hb8.size
      clear hb8 q0 q1 q2 q3 l0 q0c q1c q2c q3c l0c hBr
      go_wp2_with fail
      generalize hW : w8.alloc _ = w9
      have hb9 : Below w8.heap.size w8 w9 := by rw [← hW]; (repeat' (first | (with_reducible exact Below.refl _ _) | (with_reducible assumption) | (with_reducible refine Below.drewN ?_ _) | (with_reducible refine Below.alloc ?_ ?_ _) | (with_reducible refine Below.drew ?_) | (with_reducible refine Below.setCell ?_ ?_ _) | (with_reducible refine Below.step (by assumption) ?_ ?_) | (with_reducible exact And.left (by assumption)) | go_size))
      have x0 : w9.cell? ⟨w8.heap.size, 0, none⟩ = some (.slice a n c) := by { rw [← hW]; clear hW; go_simp }
      have x1 : w9.cell? ⟨w8.heap.size, 1, none⟩ = some (.slice a1 n c1) := by { rw [← hW]; clear hW; go_simp }
      have x2 : w9.cell? ⟨w8.heap.size, 2, none⟩ = some (.bool g) := by { rw [← hW]; clear hW; go_simp }
      have lx : w8.heap.size < w9.heap.size := by { rw [← hW]; simp }
      have HB9 := Lib.hid (HB8.out.trans (hb9.mono HB8.out.size))
      clear hW hb9
      generalize w8.heap.size = X10 at *
      go_loopw [45] (fun i wr => ∃ k : Nat, i = .int .i64 k ∧ k ≤ m ∧ Hid (∀ i, i < k → hold s e u g n i = true) ∧ Hid (Below w9.heap.size w9 wr)) (fun i _ => m - (intOf i).toNat)
      case atStart => exact ⟨0, rfl, Nat.zero_le _, Lib.hid (fun i hi => by omega), Lib.hid (Below.refl _ _)⟩
      case round =>
        obtain ⟨k, rfl, hk2, hHo, hBr⟩ := hrel
        have hbr := hBr.out
        have hzr := hbr.size
        have x0' : wr.cell? ⟨X10, 0, none⟩ = some (.slice a n c) := by { rw [cellB hbr _ _ (by first | (simp; done) | (simp; omega) | omega)]; all_goals (first | assumption | go_simp) }; have x1' : wr.cell? ⟨X10, 1, none⟩ = some (.slice a1 n c1) := by { rw [cellB hbr _ _ (by first | (simp; done) | (simp; omega) | omega)]; all_goals (first | assumption | go_simp) }; have x2' : wr.cell? ⟨X10, 2, none⟩ = some (.bool g) := by { rw [cellB hbr _ _ (by first | (simp; done) | (simp; omega) | omega)]; all_goals (first | assumption | go_simp) }; have lx' : X10 < wr.heap.size := by { omega }
        have HBw := Lib.hid (HB9.out.trans (hbr.mono HB9.out.size))
        clear hbr x0 x1 x2 lx
        rcases Nat.lt_or_ge k m with hlt | hge
        · have i1 : (k : Int) < (m : Int) := by omega
          obtain ⟨H, hH⟩ : ∃ H, H = hold s e u g n k := ⟨_, rfl⟩
          have hcall : ∀ (w' : World), Below w.heap.size w w' → Calls Tryz.prog 55 #[.agg #[.slice a n c, .slice a1 n c1, .bool g], .slice (some ⟨b, o, none⟩) m c3, .int .i64 (k : Int)] w' fun e' w'' => e' = .returned (.bool H) ∧ Below w'.heap.size w' w'' := by
            intro w' hw'
            rw [hH]
            rcases k with _ | k
            · rw [show ((0 : Nat) : Int) = 0 from rfl]
              exact HZ0.out w' hw'
            · rw [show ((k + 1 : Nat) : Int) = (k : Int) + 1 by omega]
              exact HZP.out k (by have := HM.out; omega) w' hw'
          have HCA := Lib.hid hcall
          have HHK := Lib.hid hH
          clear hH hcall
          go_wp2_with fail
          refine (HCA.out _ HBw.out).mono ?_
          rintro e10 wa ⟨rfl, hba⟩
          have HBa := Lib.hid (hBr.out.trans (hba.mono hzr))
          have HBz := Lib.hid (HBw.out.trans (hba.mono HBw.out.size))
          clear hba
          cases H
          · go_wp2
            go_ret2
            refine ⟨fun hall => ?_, fun _ => ⟨_, rfl⟩, HBz.out⟩
            have := hall k hlt
            rw [← HHK.out] at this
            exact absurd this (by simp)
          · go_wp2
            go_roundw
            case rel => exact ⟨k + 1, by go_num, by omega, Lib.hid (fun i hi => by
              rcases Nat.lt_or_ge i k with h | h
              · exact hHo.out i h
              · rw [show i = k by omega]; exact HHK.out.symm), HBa⟩
            case measure => simp [intOf]; omega
        · obtain rfl : m = k := by omega
          go_wp2
          go_ret2
          refine ⟨fun _ => rfl, fun ⟨i, hi, hf⟩ => ?_, HBw.out⟩
          rw [hHo.out i hi] at hf
          exact absurd hf (by simp)
end Go.Proofs.YtbjgklifmillgaaGreat

/- The plain part of SurgeFalling. -/
namespace Go.Proofs.YtbjgklifmillgaaGreat
open Go.RowKit
set_option linter.unusedVariables false

/-! ### Modulo four numbers -/
theorem nab_le {S : Int} (hb : -1000000000000000000000000000000 ≤ S ∧ S ≤ 1000000000000000000000000000000) : S.natAbs ≤ 1000000000000000000000000000000 := by omega
theorem zero_of_mods {S : Int} (h0 : S % 4294967291 = 0) (h1 : S % 4294967279 = 0) (h2 : S % 4294967231 = 0) (h3 : S % 4294967197 = 0) (hb : -1000000000000000000000000000000 ≤ S ∧ S ≤ 1000000000000000000000000000000) : S = 0 := by
  have d0 : (4294967291 : Nat) ∣ S.natAbs := Int.natAbs_dvd_natAbs.2 (Int.dvd_of_emod_eq_zero h0 : (4294967291 : Int) ∣ S)
  have d1 : (4294967279 : Nat) ∣ S.natAbs := Int.natAbs_dvd_natAbs.2 (Int.dvd_of_emod_eq_zero h1 : (4294967279 : Int) ∣ S)
  have d2 : (4294967231 : Nat) ∣ S.natAbs := Int.natAbs_dvd_natAbs.2 (Int.dvd_of_emod_eq_zero h2 : (4294967231 : Int) ∣ S)
  have d3 : (4294967197 : Nat) ∣ S.natAbs := Int.natAbs_dvd_natAbs.2 (Int.dvd_of_emod_eq_zero h3 : (4294967197 : Int) ∣ S)
  have e1 := Nat.Coprime.mul_dvd_of_dvd_of_dvd (show Nat.Coprime 4294967291 4294967279 by decide +kernel) d0 d1
  have e2 := Nat.Coprime.mul_dvd_of_dvd_of_dvd (show Nat.Coprime (4294967291 * 4294967279) 4294967231 by decide +kernel) e1 d2
  have e3 := Nat.Coprime.mul_dvd_of_dvd_of_dvd (show Nat.Coprime (4294967291 * 4294967279 * 4294967231) 4294967197 by decide +kernel) e2 d3
  have hlt : S.natAbs < 4294967291 * 4294967279 * 4294967231 * 4294967197 := by
    exact Nat.lt_of_le_of_lt (nab_le hb) (by decide +kernel)
  exact Int.natAbs_eq_zero.1 (Nat.eq_zero_of_dvd_of_lt e3 hlt)
theorem zUpto_zero {l : List (Int × Int × Int)} (h : tS l l.length = 0) : ∀ k, zUpto l k = true
  | 0 => rfl
  | k + 1 => by rw [zUpto, zUpto_zero h k, h]; simp
theorem zUpto_true {l : List (Int × Int × Int)} (h : zUpto l 4 = true) (hb : -1000000000000000000000000000000 ≤ tS l l.length ∧ tS l l.length ≤ 1000000000000000000000000000000) : tS l l.length = 0 := by
  simp only [zUpto, Bool.and_eq_true, decide_eq_true_eq, pm, List.getD_cons_zero, List.getD_cons_succ] at h
  obtain ⟨⟨⟨⟨_, h0⟩, h1⟩, h2⟩, h3⟩ := h
  exact zero_of_mods h0 h1 h2 h3 hb
/-! ### Fractions in lowest terms -/
theorem low_cross (a b : Int) (hb : 0 < b) : (low a b).1 * b = a * (low a b).2 := by
  have hg := gc_pos (a := a) hb
  have d1 : gc a b ∣ a := by unfold gc; exact Int.gcd_dvd_left ..
  have d2 : gc a b ∣ b := by unfold gc; exact Int.gcd_dvd_right ..
  obtain ⟨x, hx⟩ := d1
  obtain ⟨y, hy⟩ := d2
  show a.tdiv (gc a b) * b = a * (b / gc a b)
  generalize gc a b = G at *
  subst hx hy
  rw [Int.mul_tdiv_cancel_left _ (by omega), Int.mul_ediv_cancel_left _ (by omega)]
  grind
theorem low_gc (a b : Int) (hb : 0 < b) : gc (low a b).1 (low a b).2 = 1 := by
  have hg := gc_pos (a := a) hb
  have d1 : gc a b ∣ a := by unfold gc; exact Int.gcd_dvd_left ..
  have d2 : gc a b ∣ b := by unfold gc; exact Int.gcd_dvd_right ..
  obtain ⟨x, hx⟩ := d1
  obtain ⟨y, hy⟩ := d2
  have h1 : (low a b).1 = x := by
    show a.tdiv (gc a b) = x
    generalize gc a b = G at *
    rw [hx, Int.mul_tdiv_cancel_left _ (by omega)]
  have h2 : (low a b).2 = y := by
    show b / gc a b = y
    generalize gc a b = G at *
    rw [hy, Int.mul_ediv_cancel_left _ (by omega)]
  rw [h1, h2]
  have h3 := gc_scale (gc a b) x y (by omega)
  rw [← hx, ← hy] at h3
  have : gc a b * gc x y = gc a b * 1 := by omega
  exact Int.eq_of_mul_eq_mul_left (by omega) this
theorem low_den' {a b : Int} (h : 0 < b) : 1 ≤ (low a b).2 := by
  have h1 := gc_pos (a := a) h
  have h2 := gc_le (a := a) h
  show 1 ≤ b / gc a b
  exact (Int.le_ediv_iff_mul_le (by omega)).2 (by omega)
theorem low_nn {a b : Int} (ha : 0 ≤ a) (hb : 0 < b) : 0 ≤ (low a b).1 := by
  have h1 := gc_pos (a := a) hb
  exact Int.tdiv_nonneg ha (by omega)
theorem dvd_of_gc {q p r : Int} (h : q ∣ p * r) (hg : gc p q = 1) : q ∣ r := by
  have h1 : Int.gcd q p = 1 := by
    unfold gc at hg
    rw [Int.gcd_comm]
    omega
  have h' : q.natAbs ∣ p.natAbs * r.natAbs := by rw [← Int.natAbs_mul]; exact Int.natAbs_dvd_natAbs.2 h
  exact Int.natAbs_dvd_natAbs.1 (Nat.Coprime.dvd_of_dvd_mul_left (show Nat.Coprime q.natAbs p.natAbs from h1) h')
theorem frac_eq {p q p' q' : Int} (hq : 0 < q) (hq' : 0 < q') (h1 : gc p q = 1) (h2 : gc p' q' = 1) (h : p' * q = p * q') : p' = p ∧ q' = q := by
  have a1 : q ∣ q' := dvd_of_gc ⟨p', by rw [← h, Int.mul_comm]⟩ h1
  have a2 : q' ∣ q := dvd_of_gc ⟨p, by rw [h, Int.mul_comm]⟩ h2
  have b1 := Int.le_of_dvd hq' a1
  have b2 := Int.le_of_dvd hq a2
  have hqq : q' = q := by omega
  subst hqq
  exact ⟨Int.eq_of_mul_eq_mul_right (by omega) h, rfl⟩
theorem low_self {D : Int} (h : 0 < D) : low D D = (1, 1) := by
  have := low_scale D 1 1 h (by omega)
  rw [Int.mul_one] at this
  rw [this]
  decide
theorem low_nil {D : Int} (h : 0 < D) : low 0 D = (0, 1) := by
  have := low_scale D 0 1 h (by omega)
  rw [Int.mul_one, Int.mul_zero] at this
  rw [this]
  decide
/-! ### The sum of two or three terms -/
theorem tS2 (a b : Int × Int × Int) : tS [a, b] 2 = a.1 * a.2.1 * b.2.2 + b.1 * b.2.1 * a.2.2 := by
  simp [tS, tT, gt]
theorem tS3 (a b c : Int × Int × Int) : tS [a, b, c] 3 = a.1 * a.2.1 * b.2.2 * c.2.2 + b.1 * b.2.1 * a.2.2 * c.2.2 + c.1 * c.2.1 * a.2.2 * b.2.2 := by
  simp [tS, tT, gt]
theorem zero2 {D o x p q p1 q1 v v1 : Int} (hD : 0 < D) (h : p * D = v * q) (h1 : p1 * D = v1 * q1) (he : o * v + x * v1 = 0) : o * p * q1 + x * p1 * q = 0 := by
  have : D * (o * p * q1 + x * p1 * q) = 0 := by
    have e1 : D * (o * p * q1 + x * p1 * q) = (o * v + x * v1) * (q * q1) := by
      have : D * (o * p * q1 + x * p1 * q) = o * (p * D) * q1 + x * (p1 * D) * q := by grind
      rw [this, h, h1]; grind
    rw [e1, he, Int.zero_mul]
  rcases Int.mul_eq_zero.1 this with h | h
  · omega
  · exact h
theorem zero3 {D o x y p q p1 q1 p2 q2 v v1 v2 : Int} (hD : 0 < D) (h : p * D = v * q) (h1 : p1 * D = v1 * q1) (h2 : p2 * D = v2 * q2) (he : o * v + x * v1 + y * v2 = 0) : o * p * q1 * q2 + x * p1 * q * q2 + y * p2 * q * q1 = 0 := by
  have : D * (o * p * q1 * q2 + x * p1 * q * q2 + y * p2 * q * q1) = 0 := by
    have e1 : D * (o * p * q1 * q2 + x * p1 * q * q2 + y * p2 * q * q1) = (o * v + x * v1 + y * v2) * (q * q1 * q2) := by
      have : D * (o * p * q1 * q2 + x * p1 * q * q2 + y * p2 * q * q1) = o * (p * D) * q1 * q2 + x * (p1 * D) * q * q2 + y * (p2 * D) * q * q1 := by grind
      rw [this, h, h1, h2]; grind
    rw [e1, he, Int.zero_mul]
  rcases Int.mul_eq_zero.1 this with h | h
  · omega
  · exact h
theorem other2 {o x p q p1 q1 p' q' : Int} (ho : 0 < o) (hq1 : 0 < q1) (h : o * p * q1 + x * p1 * q = 0) (h' : o * p' * q1 + x * p1 * q' = 0) : p' * q = p * q' := by
  have : o * q1 * (p' * q - p * q') = 0 := by
    have : o * q1 * (p' * q - p * q') = (o * p' * q1 + x * p1 * q') * q - (o * p * q1 + x * p1 * q) * q' := by grind
    rw [this, h, h']; simp
  rcases Int.mul_eq_zero.1 this with h | h
  · have := Int.mul_pos ho hq1; omega
  · omega
theorem other3 {o x y p q p1 q1 p2 q2 p' q' : Int} (ho : 0 < o) (hq1 : 0 < q1) (hq2 : 0 < q2) (h : o * p * q1 * q2 + x * p1 * q * q2 + y * p2 * q * q1 = 0) (h' : o * p' * q1 * q2 + x * p1 * q' * q2 + y * p2 * q' * q1 = 0) : p' * q = p * q' := by
  have : o * q1 * q2 * (p' * q - p * q') = 0 := by
    have : o * q1 * q2 * (p' * q - p * q') = (o * p' * q1 * q2 + x * p1 * q' * q2 + y * p2 * q' * q1) * q - (o * p * q1 * q2 + x * p1 * q * q2 + y * p2 * q * q1) * q' := by grind
    rw [this, h, h']; simp
  rcases Int.mul_eq_zero.1 this with h | h
  · have := Int.mul_pos (Int.mul_pos ho hq1) hq2; omega
  · omega
theorem bd4 {o p q r : Int} (h0 : -300 ≤ o ∧ o ≤ 300) (h1 : -1000000000 ≤ p ∧ p ≤ 1000000000) (h2 : -1000000000 ≤ q ∧ q ≤ 1000000000) (h3 : -1000000000 ≤ r ∧ r ≤ 1000000000) : -300000000000000000000000000000 ≤ o * p * q * r ∧ o * p * q * r ≤ 300000000000000000000000000000 := by
  have a := mulb (a := o) (b := p) 300 1000000000 300000000000 (by omega) (by omega) (by omega) (by omega) (by omega)
  have b := mulb (a := o * p) (b := q) 300000000000 1000000000 300000000000000000000 (by omega) (by omega) (by omega) (by omega) (by omega)
  exact mulb (a := o * p * q) (b := r) 300000000000000000000 1000000000 300000000000000000000000000000 (by omega) (by omega) (by omega) (by omega) (by omega)
end Go.Proofs.YtbjgklifmillgaaGreat

/- The initial distribution: its equations. -/
namespace Go.Proofs.YtbjgklifmillgaaGreat
open Go.RowKit
set_option linter.unusedVariables false

/-- A numerator of the initial distribution. -/
def nu (s e : List Int) (L j : Nat) : Int := if j ≤ L then pr s j * dd s e L (L - j) else 0
theorem nums_nu (s e : List Int) (n L k : Nat) (h : k ≤ n) : (numsOf s e n L).getD k 0 = nu s e L k := by
  simp [numsOf, nu, List.getD, show k < n + 1 by omega]
theorem init_len (s e : List Int) (n L : Nat) : (initOf s e n L).length = n + 1 := by simp [initOf, numsOf]
theorem init_gp {s e : List Int} {n L j : Nat} (hj : j < n + 1) : gp (initOf s e n L) j = low (nu s e L j) (dd s e L L) := by
  simp [gp, initOf, numsOf, List.getD, hj, nu]
structure Lad (s e : List Int) (g : Bool) (n L : Nat) : Prop where
  n0 : 0 < n
  n6 : n ≤ 6
  ls : s.length = n
  le : e.length = n
  bs : ∀ x ∈ s, 1 ≤ x ∧ x ≤ 100
  be : ∀ x ∈ e, 0 ≤ x ∧ x ≤ 100
  hL : lastOf n g = L
theorem Lad.Ln {s e : List Int} {g : Bool} {n L : Nat} (h : Lad s e g n L) : L ≤ n ∧ n ≤ L + 1 := by
  have := h.hL
  have := h.n0
  unfold lastOf at *
  split at * <;> omega
theorem Lad.D {s e : List Int} {g : Bool} {n L : Nat} (h : Lad s e g n L) : 0 < dd s e L L := dd_pos s e L h.bs h.be (by have := h.Ln; have := h.ls; omega) L (Nat.le_refl _)
theorem Lad.s {s e : List Int} {g : Bool} {n L : Nat} (h : Lad s e g n L) {k : Nat} (hk : k < n) : 1 ≤ g0' s k ∧ g0' s k ≤ 100 := h.bs _ (getD_mem (by rw [h.ls]; exact hk))
theorem Lad.own {s e : List Int} {g : Bool} {n L : Nat} (h : Lad s e g n L) {k : Nat} (hk : k < n) : 0 < ownOf s e k ∧ ownOf s e k ≤ 300 := by
  have h1 := own_bd s e k (fun x hx => by have := h.bs x hx; omega) h.be
  have h2 := h.s hk
  have h3 : 0 ≤ e.getD k 0 := (h.be _ (getD_mem (by rw [h.le]; exact hk))).1
  refine ⟨?_, h1.2⟩
  unfold ownOf
  by_cases h4 : k + 1 < s.length
  · have := h.s (k := k + 1) (by rw [← h.ls]; exact h4)
    rw [if_pos h4]
    show 0 < g0' s k + e.getD k 0 + g0' s (k + 1)
    omega
  · rw [if_neg h4]
    show 0 < g0' s k + e.getD k 0
    omega
theorem Lad.nu_bd {s e : List Int} {g : Bool} {n L : Nat} (h : Lad s e g n L) (j : Nat) : 0 ≤ nu s e L j ∧ nu s e L j ≤ dd s e L L := by
  unfold nu
  by_cases hj : j ≤ L
  · rw [if_pos hj]
    have := Go.Proofs.YtbjgklifmillgaaGreat.nu_bd s e L h.bs h.be (by have := h.Ln; have := h.ls; omega) j hj
    omega
  · rw [if_neg hj]
    have := h.D
    omega
theorem Lad.nu_fall {s e : List Int} {g : Bool} {n L : Nat} (h : Lad s e g n L) (j : Nat) : nu s e L (j + 1) ≤ nu s e L j := by
  by_cases hj : j + 1 ≤ L
  · have := Go.Proofs.YtbjgklifmillgaaGreat.nu_fall s e L h.bs h.be (by have := h.Ln; have := h.ls; omega) j hj
    unfold nu
    rw [if_pos hj, if_pos (by omega)]
    exact this
  · have := h.nu_bd j
    unfold nu at *
    rw [if_neg hj]
    exact this.1
theorem nu_zero (s e : List Int) (L : Nat) : nu s e L 0 = dd s e L L := by
  unfold nu
  rw [if_pos (Nat.zero_le _)]
  simp [pr]
theorem Lad.eq {s e : List Int} {g : Bool} {n L : Nat} (h : Lad s e g n L) {j : Nat} (hj : j + 1 ≤ L) :
    ownOf s e j * nu s e L (j + 1) + -(g0' s j) * nu s e L j + (if j + 1 < n then -(g0' s (j + 1)) * nu s e L (j + 1 + 1) else 0) = 0 := by
  have hLn := h.Ln
  unfold nu
  rw [if_pos hj, if_pos (by omega)]
  have e1 : pr s (j + 1) = pr s j * g0' s j := rfl
  by_cases h2 : j + 1 = L
  · subst h2
    rw [show j + 1 - (j + 1) = 0 by omega, show j + 1 - j = 1 by omega, e1]
    have e2 : dd s e (j + 1) 1 = ownOf s e j := by show ownOf s e (j + 1 - 1) = _; rw [Nat.add_sub_cancel]
    have e3 : dd s e (j + 1) 0 = 1 := rfl
    rw [e2, e3, if_neg (show ¬ j + 1 + 1 ≤ j + 1 by omega)]
    have : (if j + 1 < n then -(g0' s (j + 1)) * 0 else 0 : Int) = 0 := by split <;> simp
    rw [this]
    grind
  · obtain ⟨m, hm⟩ : ∃ m, L = j + 2 + m := ⟨L - j - 2, by omega⟩
    rw [if_pos (by omega), if_pos (by omega), show L - (j + 1) = m + 1 by omega, show L - j = m + 2 by omega, show L - (j + 1 + 1) = m by omega]
    have e2 : dd s e L (m + 2) = ownOf s e j * dd s e L (m + 1) - g0' s (j + 1) * g0' s (j + 1) * dd s e L m := by
      show ownOf s e (L - m - 2) * dd s e L (m + 1) - s.getD (L - m - 1) 0 * s.getD (L - m - 1) 0 * dd s e L m = _
      rw [show L - m - 2 = j by omega, show L - m - 1 = j + 1 by omega]
    have e3 : pr s (j + 1 + 1) = pr s j * g0' s j * g0' s (j + 1) := rfl
    rw [e1, e2, e3]
    grind
theorem Lad.cross {s e : List Int} {g : Bool} {n L : Nat} (h : Lad s e g n L) {j : Nat} (hj : j < n + 1) : (gp (initOf s e n L) j).1 * dd s e L L = nu s e L j * (gp (initOf s e n L) j).2 := by
  rw [init_gp hj]
  exact low_cross _ _ h.D
theorem Lad.first {s e : List Int} {g : Bool} {n L : Nat} (h : Lad s e g n L) : gp (initOf s e n L) 0 = (1, 1) := by
  rw [init_gp (by omega), nu_zero]
  exact low_self h.D
theorem Lad.past {s e : List Int} {g : Bool} {n L : Nat} (h : Lad s e g n L) {j : Nat} (hj : j < n + 1) (hl : L < j) : gp (initOf s e n L) j = (0, 1) := by
  rw [init_gp hj]
  unfold nu
  rw [if_neg (by omega)]
  exact low_nil h.D
/-- Small fractions are in order. -/
theorem Lad.ok {s e : List Int} {g : Bool} {n L : Nat} (h : Lad s e g n L) (hs : (initOf s e n L).any (fun f => !smallF f) = false) {j : Nat} (hj : j < n + 1) :
    FrOk (gp (initOf s e n L) j) ∧ 0 ≤ (gp (initOf s e n L) j).1 := by
  have hD := h.D
  have hb := h.nu_bd j
  have hm : gp (initOf s e n L) j ∈ initOf s e n L := gp_mem (by rw [init_len]; exact hj)
  rw [List.any_eq_false] at hs
  have h1 := hs _ hm
  simp only [Bool.not_eq_true, Bool.not_eq_false'] at h1
  unfold smallF at h1
  simp only [Bool.and_eq_true, decide_eq_true_eq, wi_iff] at h1
  rw [init_gp hj] at h1 ⊢
  have h2 := low_den' (a := nu s e L j) hD
  exact ⟨⟨by omega, low_gc _ _ hD, h1.1.1, h1.1.2, h1.2⟩, low_nn hb.1 hD⟩
theorem Lad.fall {s e : List Int} {g : Bool} {n L : Nat} (h : Lad s e g n L) {j : Nat} (hj : j + 1 < n + 1) :
    (gp (initOf s e n L) (j + 1)).1 * (gp (initOf s e n L) j).2 ≤ (gp (initOf s e n L) j).1 * (gp (initOf s e n L) (j + 1)).2 := by
  have hD := h.D
  have c1 := h.cross hj
  have c0 := h.cross (show j < n + 1 by omega)
  have hf := h.nu_fall j
  have d1 := low_den' (a := nu s e L (j + 1)) hD
  have d0 := low_den' (a := nu s e L j) hD
  rw [← init_gp (s := s) (e := e) (n := n) (L := L) hj] at d1
  rw [← init_gp (s := s) (e := e) (n := n) (L := L) (show j < n + 1 by omega)] at d0
  generalize (gp (initOf s e n L) (j + 1)).1 = p at *
  generalize (gp (initOf s e n L) (j + 1)).2 = q at *
  generalize (gp (initOf s e n L) j).1 = p' at *
  generalize (gp (initOf s e n L) j).2 = q' at *
  generalize dd s e L L = D at *
  refine Int.le_of_mul_le_mul_left ?_ hD
  have e1 : D * (p * q') = nu s e L (j + 1) * (q * q') := by rw [show D * (p * q') = (p * D) * q' by grind, c1]; grind
  have e2 : D * (p' * q) = nu s e L j * (q * q') := by rw [show D * (p' * q) = (p' * D) * q by grind, c0]; grind
  rw [e1, e2]
  exact Int.mul_le_mul_of_nonneg_right hf (Int.mul_nonneg (by omega) (by omega))
theorem Lad.terms {s e : List Int} {g : Bool} {n L : Nat} (h : Lad s e g n L) (u : List (Int × Int)) (j : Nat) :
    tS (tms s e u n (j + 1)) (tms s e u n (j + 1)).length = if j + 1 < n then ownOf s e j * (gp u (j + 1)).1 * (gp u j).2 * (gp u (j + 1 + 1)).2 + -(g0' s j) * (gp u j).1 * (gp u (j + 1)).2 * (gp u (j + 1 + 1)).2 + -(g0' s (j + 1)) * (gp u (j + 1 + 1)).1 * (gp u (j + 1)).2 * (gp u j).2
      else ownOf s e j * (gp u (j + 1)).1 * (gp u j).2 + -(g0' s j) * (gp u j).1 * (gp u (j + 1)).2 := by
  unfold tms
  rw [Nat.add_sub_cancel]
  by_cases hj : j + 1 < n
  · rw [if_pos hj, if_pos hj]
    exact tS3 _ _ _
  · rw [if_neg hj, if_neg hj]
    exact tS2 _ _
theorem Lad.sum {s e : List Int} {g : Bool} {n L : Nat} (h : Lad s e g n L) {j : Nat} (hj : j + 1 ≤ L) : tS (tms s e (initOf s e n L) n (j + 1)) (tms s e (initOf s e n L) n (j + 1)).length = 0 := by
  have hLn := h.Ln
  have he := h.eq hj
  rw [h.terms]
  by_cases h1 : j + 1 < n
  · rw [if_pos h1] at he ⊢
    exact zero3 h.D (h.cross (by omega)) (h.cross (by omega)) (h.cross (by omega)) he
  · rw [if_neg h1] at he ⊢
    exact zero2 h.D (h.cross (by omega)) (h.cross (by omega)) (by omega)
theorem Lad.holds {s e : List Int} {g : Bool} {n L : Nat} (h : Lad s e g n L) {i : Nat} (hi : i < n + 1) : hold s e (initOf s e n L) g n i = true := by
  unfold hold
  rw [h.hL]
  by_cases h0 : i = 0
  · rw [if_pos h0, h.first]; rfl
  · rw [if_neg h0]
    by_cases h1 : (L : Int) < (i : Int)
    · rw [if_pos h1, h.past hi (by omega)]; rfl
    · rw [if_neg h1]
      obtain ⟨j, rfl⟩ : ∃ j, i = j + 1 := ⟨i - 1, by omega⟩
      exact zUpto_zero (h.sum (by omega)) 4
theorem gp_set {u : List (Int × Int)} {k i : Nat} {x : Int × Int} (hk : k < u.length) : gp (u.set k x) i = if i = k then x else gp u i := by
  unfold gp
  by_cases h : i = k
  · subst h; simp [List.getD, hk]
  · rw [if_neg h]
    simp [List.getD, show ¬ k = i from fun e => h e.symm]
theorem Lad.bdS {s e : List Int} {g : Bool} {n L : Nat} (h : Lad s e g n L) {u : List (Int × Int)} (hu : ∀ i, i < n + 1 → FrOk (gp u i)) {j : Nat} (hj : j < n) :
    -1000000000000000000000000000000 ≤ tS (tms s e u n (j + 1)) (tms s e u n (j + 1)).length ∧ tS (tms s e u n (j + 1)) (tms s e u n (j + 1)).length ≤ 1000000000000000000000000000000 := by
  have h0 := hu j (by omega)
  have h1 := hu (j + 1) (by omega)
  have ho := h.own hj
  have hs := h.s hj
  unfold FrOk at h0 h1
  rw [h.terms]
  by_cases h2 : j + 1 < n
  · have h3 := hu (j + 1 + 1) (by omega)
    have hs1 := h.s h2
    unfold FrOk at h3
    rw [if_pos h2]
    have a1 := bd4 (o := ownOf s e j) (p := (gp u (j + 1)).1) (q := (gp u j).2) (r := (gp u (j + 1 + 1)).2) (by omega) (by omega) (by omega) (by omega)
    have a2 := bd4 (o := -(g0' s j)) (p := (gp u j).1) (q := (gp u (j + 1)).2) (r := (gp u (j + 1 + 1)).2) (by omega) (by omega) (by omega) (by omega)
    have a3 := bd4 (o := -(g0' s (j + 1))) (p := (gp u (j + 1 + 1)).1) (q := (gp u (j + 1)).2) (r := (gp u j).2) (by omega) (by omega) (by omega) (by omega)
    omega
  · rw [if_neg h2]
    have a1 := bd4 (o := ownOf s e j) (p := (gp u (j + 1)).1) (q := (gp u j).2) (r := 1) (by omega) (by omega) (by omega) (by omega)
    have a2 := bd4 (o := -(g0' s j)) (p := (gp u j).1) (q := (gp u (j + 1)).2) (r := 1) (by omega) (by omega) (by omega) (by omega)
    rw [Int.mul_one] at a1 a2
    omega
theorem Lad.changed {s e : List Int} {g : Bool} {n L : Nat} (h : Lad s e g n L) (hok : ∀ i, i < n + 1 → FrOk (gp (initOf s e n L) i)) {k : Nat} (hk : k < n + 1) {x : Int × Int} (hx : FrOk x) (hne : x ≠ gp (initOf s e n L) k) :
    ∃ i, i < n + 1 ∧ hold s e ((initOf s e n L).set k x) g n i = false := by
  refine ⟨k, hk, ?_⟩
  have hlen := init_len s e n L
  have hkk : gp ((initOf s e n L).set k x) k = x := by rw [gp_set (by omega), if_pos rfl]
  have hoth : ∀ i, i ≠ k → gp ((initOf s e n L).set k x) i = gp (initOf s e n L) i := fun i hi => by rw [gp_set (by omega), if_neg hi]
  have hU : ∀ i, i < n + 1 → FrOk (gp ((initOf s e n L).set k x) i) := fun i hi => by
    by_cases h1 : i = k
    · rw [h1, hkk]; exact hx
    · rw [hoth i h1]; exact hok i hi
  obtain ⟨p', q'⟩ := x
  have hne2 : ∀ a b : Int, gp (initOf s e n L) k = (a, b) → (p' == a && q' == b) = false := by
    intro a b hab
    rw [hab] at hne
    by_cases h1 : p' = a
    · by_cases h2 : q' = b
      · exact absurd (by rw [h1, h2]) hne
      · simp [h2]
    · simp [h1]
  unfold hold
  rw [h.hL]
  by_cases h0 : k = 0
  · subst h0
    rw [if_pos rfl, hkk]
    exact hne2 1 1 h.first
  · rw [if_neg h0]
    by_cases h1 : (L : Int) < (k : Int)
    · rw [if_pos h1, hkk]
      exact hne2 0 1 (h.past hk (by omega))
    · rw [if_neg h1]
      obtain ⟨j, rfl⟩ : ∃ j, k = j + 1 := ⟨k - 1, by omega⟩
      have hLn := h.Ln
      cases hz : zUpto (tms s e ((initOf s e n L).set (j + 1) (p', q')) n (j + 1)) 4
      · rfl
      · exfalso
        have h2 := zUpto_true hz (h.bdS hU (by omega))
        have h3 := h.sum (show j + 1 ≤ L by omega)
        have ho := (h.own (show j < n by omega)).1
        rw [h.terms] at h2 h3
        rw [hkk, hoth j (by omega)] at h2
        have f1 := hok (j + 1) hk
        have f0 := hok j (by omega)
        unfold FrOk at f1 f0 hx
        have hcr : p' * (gp (initOf s e n L) (j + 1)).2 = (gp (initOf s e n L) (j + 1)).1 * q' := by
          by_cases h4 : j + 1 < n
          · rw [if_pos h4] at h2 h3
            rw [hoth (j + 1 + 1) (by omega)] at h2
            have f2 := hok (j + 1 + 1) (by omega)
            unfold FrOk at f2
            exact other3 ho f0.1 f2.1 h3 h2
          · rw [if_neg h4] at h2 h3
            exact other2 ho f0.1 h3 h2
        have := frac_eq f1.1 hx.1 f1.2.1 hx.2.1 hcr
        exact hne (Prod.ext this.1 this.2)
end Go.Proofs.YtbjgklifmillgaaGreat
