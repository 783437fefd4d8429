/- Fractions of the base; the reference's steepest piece. -/
import Derived.Test.YtiellefbndlkkaaStpPlain
import Derived.Test.YtiellefbndlkkaaFrac
import Derived.Test.YtiellefbndlkkaaRef1
namespace Go.Proofs.Ytiellefbndlkkaa
open Go.RowKit
set_option linter.unusedVariables false

theorem bgcd_any (a b : Int) (w : World) (ha0 : -9223372036854775807 ≤ a) (ha1 : a ≤ 9223372036854775807) (hb0 : -9223372036854775807 ≤ b) (hb1 : b ≤ 9223372036854775807) :
    Calls Try.prog 106 #[.int .i64 a, .int .i64 b] w fun e' w' => e' = .returned (.int .i64 (gc a b)) ∧ ∃ n, w' = w.drewN n := by
  go_enter Try.func106, Try.ntmps106
  go_wp2
  go_loopw [0, 1] (fun x y wr => ∃ c d : Int, x = .int .i64 c ∧ y = .int .i64 d ∧ gc c d = gc a b ∧ -9223372036854775807 ≤ c ∧ c ≤ 9223372036854775807 ∧ -9223372036854775807 ≤ d ∧ d ≤ 9223372036854775807 ∧ ∃ n, wr = w.drewN n) (fun _ y _ => (intOf y).natAbs)
  case atStart => exact ⟨a, b, rfl, rfl, rfl, ha0, ha1, hb0, hb1, 0, rfl⟩
  case round =>
    obtain ⟨c, d, rfl, rfl, hg, hc0, hc1, hd0, hd1, n, rfl⟩ := hrel
    have HG := Lib.hid hg; clear hg
    by_cases hd : d = 0
    · subst hd
      go_wp2_with (go_at_call 121; refine (bsize_any _ _ (by omega) (by omega)).mono ?_; rintro e w' ⟨rfl, rfl⟩)
      go_ret
      exact ⟨ret_int (by rw [← HG.out, gc_zero]), n, rfl⟩
    · have hd' : (d == 0) = false := by simpa using hd
      have hd'' : (d != 0) = true := by simpa using hd
      go_wp2
      go_region
      go_wp2
      have hlt := tmod_lt c d hd
      have hg := gcd_tmod c d
      have hbd := hlt
      go_roundw
      case rel => exact ⟨d, c.tmod d, rfl, rfl, by rw [← HG.out]; unfold gc; rw [hg], by omega, by omega, by omega, by omega, n + 1, rfl⟩
      case measure => simpa [intOf] using hlt
theorem blowest_any (a b : Int) (w : World) (ha0 : -9000000000000000000 ≤ a) (ha1 : a ≤ 9000000000000000000) (hb0 : 0 < b) (hb1 : b ≤ 9000000000000000000) :
    Calls Try.prog 57 #[.int .i64 a, .int .i64 b] w fun e' w' => e' = .returned (.agg #[.int .i64 (a.tdiv (gc a b)), .int .i64 (b / gc a b)]) ∧ Below w.heap.size w w' := by
  have hg0 := gc_pos (a := a) hb0
  have hg1 := gc_le (a := a) hb0
  have hq := tdiv_bd a (gc a b) 9000000000000000000 (by omega) (by omega)
  have hgn : (gc a b == 0) = false := by simp; omega
  have hb2 : ¬ b < 0 := by omega
  go_enter Try.func57, Try.ntmps57
  go_wp2_with fail
  refine (bgcd_any _ _ _ (by omega) (by omega) (by omega) (by omega)).mono ?_
  rintro e w' ⟨rfl, n, rfl⟩
  go_wp2_with fail
  go_region
  all_goals
    go_wp2
    refine bodyPost_ret (v := .agg #[.int .i64 (a.tdiv (gc a b)), .int .i64 (b / gc a b)]) (by simp [results, Try.results57, go_sem]) rfl ⟨rfl, ?_⟩
    (repeat' (first | (with_reducible exact Below.refl _ _) | (with_reducible assumption) | (with_reducible refine Below.drewN ?_ _) | (with_reducible refine Below.alloc ?_ ?_ _) | (with_reducible refine Below.drew ?_) | (with_reducible refine Below.setCell ?_ ?_ _) | (with_reducible refine Below.step (by assumption) ?_ ?_) | (with_reducible exact And.left (by assumption)) | go_size))
def cmpI (x y : Int) : Int := if x < y then -1 else if y < x then 1 else 0
theorem bcmp_any (a1 a2 b1 b2 : Int) (w : World) (h1 : -4000000000000 ≤ a1 * b2 ∧ a1 * b2 ≤ 4000000000000) (h2 : -4000000000000 ≤ b1 * a2 ∧ b1 * a2 ≤ 4000000000000) :
    Calls Try.prog 38 #[.agg #[.int .i64 a1, .int .i64 a2], .agg #[.int .i64 b1, .int .i64 b2]] w fun e' w' => e' = .returned (.int .i64 (cmpI (a1 * b2) (b1 * a2))) ∧ Below w.heap.size w w' := by
  obtain ⟨R, hR⟩ : ∃ R, R = cmpI (a1 * b2) (b1 * a2) := ⟨_, rfl⟩
  rw [← hR]
  have HR := Lib.hid hR
  clear hR
  go_enter Try.func38, Try.ntmps38
  go_wp2
  go_quiet (fail)
  go_wp2_with fail
  all_goals
    go_ret
    refine ⟨ret_int (by rw [HR.out]; unfold cmpI; (repeat' split) <;> first | rfl | omega), ?_⟩
    (repeat' (first | (with_reducible exact Below.refl _ _) | (with_reducible assumption) | (with_reducible refine Below.drewN ?_ _) | (with_reducible refine Below.alloc ?_ ?_ _) | (with_reducible refine Below.drew ?_) | (with_reducible refine Below.setCell ?_ ?_ _) | (with_reducible refine Below.step (by assumption) ?_ ?_) | (with_reducible exact And.left (by assumption)) | go_size))
theorem bisSmall_any (a b : Int) (w : World) : Calls Try.prog 36 #[.agg #[.int .i64 a, .int .i64 b]] w fun e' w' => e' = .returned (.bool (wi a (-1000000000) 1000000000 && wi b 1 1000000000)) ∧ Below w.heap.size w w' := by
  cases h : wi a (-1000000000) 1000000000
  all_goals
    go_enter Try.func36, Try.ntmps36
    go_wp2_with (go_at_call 16; refine (bwithin_any _ _ _ _).mono ?_; rintro e w' ⟨rfl, rfl⟩)
    go_ret
    refine ⟨ret_bool (by simp), ?_⟩
    (repeat' (first | (with_reducible exact Below.refl _ _) | (with_reducible assumption) | (with_reducible refine Below.drewN ?_ _) | (with_reducible refine Below.alloc ?_ ?_ _) | (with_reducible refine Below.drew ?_) | (with_reducible refine Below.setCell ?_ ?_ _) | (with_reducible refine Below.step (by assumption) ?_ ?_) | (with_reducible exact And.left (by assumption)) | go_size))
set_option maxHeartbeats 1000000 in
set_option maxRecDepth 100000 in
theorem rslope_any (l : List (Int × Int)) (k : Nat) (a : Option Addr) (n c : Nat) (w : World) (hl : PairsR w a n l) (h0 : (impErr l).2 = 0) (hk : k + 1 < n) :
    Calls Try.prog 119 #[.agg #[.slice a n c], .int .i64 (k : Int)] w fun e' w' => e' = .returned (.agg #[.int .i64 (slOf l k).1, .int .i64 (slOf l k).2]) ∧ Below w.heap.size w w' := by
  have hlen := hl.len
  have hz := impErr_zero h0
  rw [hlen] at hz
  obtain ⟨hn2, hn12, _⟩ := hz
  obtain ⟨b0, o0, rfl, hb0, hc0⟩ := hl.addr (by omega)
  obtain ⟨tA, htA⟩ : ∃ t, t = (gp l k).1 := ⟨_, rfl⟩
  obtain ⟨vA, hvA⟩ : ∃ t, t = (gp l k).2 := ⟨_, rfl⟩
  obtain ⟨tB, htB⟩ : ∃ t, t = (gp l (k + 1)).1 := ⟨_, rfl⟩
  obtain ⟨vB, hvB⟩ : ∃ t, t = (gp l (k + 1)).2 := ⟨_, rfl⟩
  have cA0 : w.cell? ⟨b0, o0 + k * 2, none⟩ = some (.int .i64 tA) := by rw [htA]; exact (hc0 k (by omega)).1
  have cA1 : w.cell? ⟨b0, o0 + k * 2 + 1, none⟩ = some (.int .i64 vA) := by rw [hvA]; exact (hc0 k (by omega)).2
  have cB0 : w.cell? ⟨b0, o0 + (k + 1) * 2, none⟩ = some (.int .i64 tB) := by rw [htB]; exact (hc0 (k + 1) hk).1
  have cB1 : w.cell? ⟨b0, o0 + (k + 1) * 2 + 1, none⟩ = some (.int .i64 vB) := by rw [hvB]; exact (hc0 (k + 1) hk).2
  have hraw := sl_raw h0 (i := k) (by rw [hlen]; exact hk)
  rw [← htA, ← hvA, ← htB, ← hvB] at hraw
  have hsz := sz_bd (M := 2000000) hraw.1 hraw.2.1
  obtain ⟨⟨S1, S2⟩, hS⟩ : ∃ s, s = slOf l k := ⟨_, rfl⟩
  have hS' : (S1, S2) = low (sz (vB - vA)) (tB - tA) := by rw [hS]; unfold slOf; rw [htA, hvA, htB, hvB]
  have hlow := fun w' => blowest_any (sz (vB - vA)) (tB - tA) w' (by omega) (by omega) (by omega) (by omega)
  rw [show (sz (vB - vA)).tdiv (gc (sz (vB - vA)) (tB - tA)) = S1 from (congrArg Prod.fst hS').symm, show (tB - tA) / gc (sz (vB - vA)) (tB - tA) = S2 from (congrArg Prod.snd hS').symm] at hlow
  have HLOW := Lib.hid hlow
  rw [← hS]
  have i0 : (0 : Int) ≤ (k : Int) := by omega
  have i1 : (k : Int) + 1 < (n : Int) := by omega
  have i2 : (k : Int) < (n : Int) := by omega
  clear htA hvA htB hvB hS hS' hlow hl hc0 hlen h0
  go_enter Try.func119, Try.ntmps119
  go_wp2_with fail
  generalize hW : (w.alloc _).alloc _ = w6
  have hb6 : Below w.heap.size w w6 := by rw [← hW]; (repeat' (first | (with_reducible exact Below.refl _ _) | (with_reducible assumption) | (with_reducible refine Below.drewN ?_ _) | (with_reducible refine Below.alloc ?_ ?_ _) | (with_reducible refine Below.drew ?_) | (with_reducible refine Below.setCell ?_ ?_ _) | (with_reducible refine Below.step (by assumption) ?_ ?_) | (with_reducible exact And.left (by assumption)) | go_size))
  have q0 : w6.cell? ⟨w.heap.size, 0, none⟩ = some (.slice (some ⟨b0, o0, none⟩) n c) := by { rw [← hW]; clear hW; go_simp }
  have p0 : w6.cell? ⟨w.heap.size + 1, 0, none⟩ = some (.int .i64 0) := by { rw [← hW]; clear hW; go_simp }
  have p1 : w6.cell? ⟨w.heap.size + 1, 1, none⟩ = some (.int .i64 0) := by { rw [← hW]; clear hW; go_simp }
  have f0 : w6.frozen? ⟨w.heap.size + 1, 0, none⟩ = false := by { rw [← hW]; clear hW; go_simp }
  have f1 : w6.frozen? ⟨w.heap.size + 1, 1, none⟩ = false := by { rw [← hW]; clear hW; go_simp }
  have l1 : w.heap.size + 1 < w6.heap.size := by { rw [← hW]; simp }
  have cA0' : w6.cell? ⟨b0, o0 + k * 2, none⟩ = some (.int .i64 tA) := by rw [cellB hb6 _ _ hb0]; exact cA0
  have cA1' : w6.cell? ⟨b0, o0 + k * 2 + 1, none⟩ = some (.int .i64 vA) := by rw [cellB hb6 _ _ hb0]; exact cA1
  have cB0' : w6.cell? ⟨b0, o0 + (k + 1) * 2, none⟩ = some (.int .i64 tB) := by rw [cellB hb6 _ _ hb0]; exact cB0
  have cB1' : w6.cell? ⟨b0, o0 + (k + 1) * 2 + 1, none⟩ = some (.int .i64 vB) := by rw [cellB hb6 _ _ hb0]; exact cB1
  have HB6 := Lib.hid hb6
  clear hW hb6 cA0 cA1 cB0 cB1
  refine drew_of_eq 29 (by kernel_rfl) (by kernel_rfl) ?_; simp only [List.take_succ_cons, List.take_zero, List.drop_succ_cons, List.drop_zero]; repeat go_big_quiet_step (exact calls_drew_same (bsize_any _ _ (by omega) (by omega)))
  refine wpQuiet_nil ?_; intro m1
  go_wp2_with fail
  refine (HLOW.out _).mono ?_
  rintro e8 w8 ⟨rfl, hb8⟩
  have hb7 : Below w6.heap.size w6 w8 := Below.trans (by (repeat' (first | (with_reducible exact Below.refl _ _) | (with_reducible assumption) | (with_reducible refine Below.drewN ?_ _) | (with_reducible refine Below.alloc ?_ ?_ _) | (with_reducible refine Below.drew ?_) | (with_reducible refine Below.setCell ?_ ?_ _) | (with_reducible refine Below.step (by assumption) ?_ ?_) | (with_reducible exact And.left (by assumption)) | go_size))) (hb8.mono (by simp))
  have p0' : w8.cell? ⟨w.heap.size + 1, 0, none⟩ = some (.int .i64 0) := by { rw [cellB hb7 _ _ (by first | (simp; done) | (simp; omega) | omega)]; all_goals (first | assumption | go_simp) }; have p1' : w8.cell? ⟨w.heap.size + 1, 1, none⟩ = some (.int .i64 0) := by { rw [cellB hb7 _ _ (by first | (simp; done) | (simp; omega) | omega)]; all_goals (first | assumption | go_simp) }; have f0' : w8.frozen? ⟨w.heap.size + 1, 0, none⟩ = false := by { rw [frozenB hb7 _ _ (by first | (simp; done) | (simp; omega) | omega)]; all_goals (first | assumption | go_simp) }; have f1' : w8.frozen? ⟨w.heap.size + 1, 1, none⟩ = false := by { rw [frozenB hb7 _ _ (by first | (simp; done) | (simp; omega) | omega)]; all_goals (first | assumption | go_simp) }
  have HB8 := Lib.hid (HB6.out.trans (hb7.mono HB6.out.size))
  clear hb7 hb8 p0 p1 f0 f1 q0 cA0' cA1' cB0' cB1'
  go_wp2
  refine bodyPost_ret (v := .agg #[.int .i64 S1, .int .i64 S2]) (by simp [results, Try.results119, go_sem, p0', p1']) rfl ⟨rfl, ?_⟩
  have := HB8.out
  (repeat' (first | (with_reducible exact Below.refl _ _) | (with_reducible assumption) | (with_reducible refine Below.drewN ?_ _) | (with_reducible refine Below.alloc ?_ ?_ _) | (with_reducible refine Below.drew ?_) | (with_reducible refine Below.setCell ?_ ?_ _) | (with_reducible refine Below.step (by assumption) ?_ ?_) | (with_reducible exact And.left (by assumption)) | go_size))
set_option maxHeartbeats 2000000 in
set_option maxRecDepth 100000 in
theorem rsteep_any (l : List (Int × Int)) (a : Option Addr) (n c : Nat) (w : World) (hl : PairsR w a n l) (h0 : (impErr l).2 = 0) :
    Calls Try.prog 55 #[.agg #[.slice a n c]] w fun e' w' => e' = .returned (.tuple #[.int .i64 (stB l (n - 2) : Nat), .agg #[.int .i64 (slOf l (stB l (n - 2))).1, .int .i64 (slOf l (stB l (n - 2))).2]]) ∧ Below w.heap.size w w' := by
  have hlen := hl.len
  have hz := impErr_zero h0
  rw [hlen] at hz
  obtain ⟨hn2, hn12, _⟩ := hz
  have HL := Lib.hid hl
  have H0 := Lib.hid h0
  have HS := Lib.hid (fun (j : Nat) (hj : j + 1 < n) (v : World) (hv : Below w.heap.size w v) => rslope_any l j a n c v (hl.below hv) h0 hj)
  have HMU := Lib.hid (fun (i j : Nat) (hi : i + 1 < n) (hj : j + 1 < n) => sl_mul h0 (i := i) (j := j) (by rw [hlen]; exact hi) (by rw [hlen]; exact hj))
  clear hl h0 hlen
  go_enter Try.func55, Try.ntmps55
  go_wp2
  generalize hW : (w.alloc _).alloc _ = w6
  have hb6 : Below w.heap.size w w6 := by rw [← hW]; (repeat' (first | (with_reducible exact Below.refl _ _) | (with_reducible assumption) | (with_reducible refine Below.drewN ?_ _) | (with_reducible refine Below.alloc ?_ ?_ _) | (with_reducible refine Below.drew ?_) | (with_reducible refine Below.setCell ?_ ?_ _) | (with_reducible refine Below.step (by assumption) ?_ ?_) | (with_reducible exact And.left (by assumption)) | go_size))
  have q0 : w6.cell? ⟨w.heap.size, 0, none⟩ = some (.slice a n c) := by { rw [← hW]; clear hW; go_simp }
  have p0 : w6.cell? ⟨w.heap.size + 1, 0, none⟩ = some (.int .i64 0) := by { rw [← hW]; clear hW; go_simp }
  have p1 : w6.cell? ⟨w.heap.size + 1, 1, none⟩ = some (.int .i64 0) := by { rw [← hW]; clear hW; go_simp }
  have f0 : w6.frozen? ⟨w.heap.size + 1, 0, none⟩ = false := by { rw [← hW]; clear hW; go_simp }
  have f1 : w6.frozen? ⟨w.heap.size + 1, 1, none⟩ = false := by { rw [← hW]; clear hW; go_simp }
  have l0 : w.heap.size < w6.heap.size := by { rw [← hW]; simp; omega }
  have l1 : w.heap.size + 1 < w6.heap.size := by { rw [← hW]; simp }
  have HB6 := Lib.hid hb6
  clear hW hb6
  go_loopw [4, 5] (fun x i wr => ∃ k B : Nat, x = .int .i64 (B : Int) ∧ i = .int .i64 ((k : Int) + 1) ∧ k + 1 < n ∧ B ≤ k ∧ Hid (B = stB l k) ∧ Hid (Below w6.heap.size w6 wr)) (fun _ i _ => n - (intOf i).toNat)
  case atStart => exact ⟨0, 0, rfl, rfl, by omega, Nat.le_refl _, Lib.hid rfl, Lib.hid (Below.refl _ _)⟩
  case round =>
    obtain ⟨k, B, rfl, rfl, hk, hBk, hSt, hBr⟩ := hrel
    have hbr := hBr.out
    have hzr := hbr.size
    have q0' : wr.cell? ⟨w.heap.size, 0, none⟩ = some (.slice a n c) := by { rw [cellB hbr _ _ (by first | (simp; done) | (simp; omega) | omega)]; all_goals (first | assumption | go_simp) }; have p0' : wr.cell? ⟨w.heap.size + 1, 0, none⟩ = some (.int .i64 0) := by { rw [cellB hbr _ _ (by first | (simp; done) | (simp; omega) | omega)]; all_goals (first | assumption | go_simp) }; have p1' : wr.cell? ⟨w.heap.size + 1, 1, none⟩ = some (.int .i64 0) := by { rw [cellB hbr _ _ (by first | (simp; done) | (simp; omega) | omega)]; all_goals (first | assumption | go_simp) }; have f0' : wr.frozen? ⟨w.heap.size + 1, 0, none⟩ = false := by { rw [frozenB hbr _ _ (by first | (simp; done) | (simp; omega) | omega)]; all_goals (first | assumption | go_simp) }; have f1' : wr.frozen? ⟨w.heap.size + 1, 1, none⟩ = false := by { rw [frozenB hbr _ _ (by first | (simp; done) | (simp; omega) | omega)]; all_goals (first | assumption | go_simp) }; have l0' : w.heap.size < wr.heap.size := by { omega }; have l1' : w.heap.size + 1 < wr.heap.size := by { omega }
    have HBr := Lib.hid (HB6.out.trans (hbr.mono HB6.out.size))
    clear hbr q0 p0 p1 f0 f1 l0 l1
    rcases Nat.lt_or_ge (k + 2) n with hlt | hge
    · have i1 : (k : Int) + 1 + 1 < (n : Int) := by omega
      have hSP := fun v hv => HS.out (k + 1) (by omega) v hv
      have hSQ := fun v hv => HS.out B (by omega) v hv
      have hm1 := HMU.out (k + 1) B (by omega) (by omega)
      have hm2 := HMU.out B (k + 1) (by omega) (by omega)
      obtain ⟨⟨P1, P2⟩, hP⟩ : ∃ s, s = slOf l (k + 1) := ⟨_, rfl⟩
      obtain ⟨⟨Q1, Q2⟩, hQ⟩ : ∃ s, s = slOf l B := ⟨_, rfl⟩
      rw [← hP, ← hQ] at hm1 hm2
      rw [← hP] at hSP
      rw [← hQ] at hSQ
      simp only [Int.natCast_add, Int.cast_ofNat_Int] at hSP
      dsimp only at hm1 hm2
      have hCM := fun v => bcmp_any P1 P2 Q1 Q2 v (by omega) (by omega)
      have HSP := Lib.hid hSP
      have HSQ := Lib.hid hSQ
      by_cases hgt : Q1 * P2 < P1 * Q2
      · have hR : cmpI (P1 * Q2) (Q1 * P2) = 1 := by unfold cmpI; rw [if_neg (by omega), if_pos hgt]
        rw [hR] at hCM
        have HCM := Lib.hid hCM
        have HNX := Lib.hid (show k + 1 = stB l (k + 1) by rw [stB, ← hSt.out, ← hP, ← hQ, if_pos hgt])
        clear hSP hSQ hm1 hm2 hP hQ hCM hR hgt
        go_wp2
        refine later_all (by kernel_rfl) (by kernel_rfl) ?_; repeat go_big_quiet_step(first | (go_at_call 38; exact calls_later (HCM.out _)) | (go_at_call_of 119 B; exact calls_later (HSQ.out _ (HBr.out.trans (Below.mono (Later.below _) (HBr.out.size))))) | (go_at_call 119; exact calls_later (HSP.out _ (HBr.out.trans (Below.mono (Later.below _) (HBr.out.size))))))
        refine wpQuiet_nil ?_; intro w9 hb9
        have HB9 := Lib.hid (hBr.out.trans (hb9.mono hzr))
        clear hb9
        go_wp2
        go_roundw
        case rel => exact ⟨k + 1, k + 1, by go_num, by go_num, by omega, Nat.le_refl _, HNX, HB9⟩
        case measure => simp [intOf]; omega
      · obtain ⟨R, hR⟩ : ∃ R, R = cmpI (P1 * Q2) (Q1 * P2) := ⟨_, rfl⟩
        have hR0 : R ≤ 0 := by rw [hR]; unfold cmpI; (repeat' split) <;> omega
        have i5 : decide (R > 0) = false := by simp; omega
        rw [← hR] at hCM
        have HCM := Lib.hid hCM
        have HNX := Lib.hid (show B = stB l (k + 1) by rw [stB, ← hSt.out, ← hP, ← hQ, if_neg hgt])
        clear hSP hSQ hm1 hm2 hP hQ hCM hR hgt hR0
        go_wp2
        refine later_all (by kernel_rfl) (by kernel_rfl) ?_; repeat go_big_quiet_step(first | (go_at_call 38; exact calls_later (HCM.out _)) | (go_at_call_of 119 B; exact calls_later (HSQ.out _ (HBr.out.trans (Below.mono (Later.below _) (HBr.out.size))))) | (go_at_call 119; exact calls_later (HSP.out _ (HBr.out.trans (Below.mono (Later.below _) (HBr.out.size))))))
        refine wpQuiet_nil ?_; intro w9 hb9
        have HB9 := Lib.hid (hBr.out.trans (hb9.mono hzr))
        clear hb9
        go_wp2
        go_roundw
        case rel => exact ⟨k + 1, B, by go_num, by go_num, by omega, by omega, HNX, HB9⟩
        case measure => simp [intOf]; omega
    · have hkn : k = n - 2 := by omega
      have HK := Lib.hid hkn
      have i1 : ¬ ((k : Int) + 1 + 1 < (n : Int)) := by omega
      have HSQ := Lib.hid (fun v hv => HS.out B (by omega) v hv)
      clear hkn
      go_wp2_with fail
      refine (HSQ.out _ HBr.out).mono ?_
      rintro e9 w9 ⟨rfl, hb9⟩
      have p0 : w9.cell? ⟨w.heap.size + 1, 0, none⟩ = some (.int .i64 0) := by { rw [cellB hb9 _ _ (by first | (simp; done) | (simp; omega) | omega)]; all_goals (first | assumption | go_simp) }; have p1 : w9.cell? ⟨w.heap.size + 1, 1, none⟩ = some (.int .i64 0) := by { rw [cellB hb9 _ _ (by first | (simp; done) | (simp; omega) | omega)]; all_goals (first | assumption | go_simp) }; have f0 : w9.frozen? ⟨w.heap.size + 1, 0, none⟩ = false := by { rw [frozenB hb9 _ _ (by first | (simp; done) | (simp; omega) | omega)]; all_goals (first | assumption | go_simp) }; have f1 : w9.frozen? ⟨w.heap.size + 1, 1, none⟩ = false := by { rw [frozenB hb9 _ _ (by first | (simp; done) | (simp; omega) | omega)]; all_goals (first | assumption | go_simp) }
      have HB9 := Lib.hid (HBr.out.trans (hb9.mono HBr.out.size))
      clear hb9 p0' p1' f0' f1'
      go_wp2
      refine bodyPost_ret (v := .tuple #[.int .i64 (B : Int), .agg #[.int .i64 (slOf l B).1, .int .i64 (slOf l B).2]]) (by simp [results, Try.results55, go_sem, p0, p1]) rfl ⟨by rw [← HK.out, ← hSt.out], ?_⟩
      have := HB9.out
      (repeat' (first | (with_reducible exact Below.refl _ _) | (with_reducible assumption) | (with_reducible refine Below.drewN ?_ _) | (with_reducible refine Below.alloc ?_ ?_ _) | (with_reducible refine Below.drew ?_) | (with_reducible refine Below.setCell ?_ ?_ _) | (with_reducible refine Below.step (by assumption) ?_ ?_) | (with_reducible exact And.left (by assumption)) | go_size))
end Go.Proofs.Ytiellefbndlkkaa
