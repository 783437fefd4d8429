import Derived.Shelf.Bits.Mul64
import Derived.Test.YtbjgklifmillgaaMF2
import Derived.Test.YtbjgklifmillgaaMSt
import Derived.Test.YtbjgklifmillgaaMVq
/- The stress of a path, in the program. -/
namespace Go.Proofs.Ytbjgklifmillgaa
open Go.RowKit
set_option linter.unusedVariables false
set_option linter.unusedSimpArgs false

set_option maxHeartbeats 1000000 in
theorem mul64_full (x y : Nat) (hx : x < 18446744073709551616) (hy : y < 18446744073709551616) (w : World) :
    Calls Try.prog 157 #[.int .u64 (x : Int), .int .u64 (y : Int)] w fun e w' => e = .returned (.tuple #[.int .u64 ((x * y / 18446744073709551616 : Nat) : Int), .int .u64 ((x * y % 18446744073709551616 : Nat) : Int)]) ∧ w = w' := by
  obtain ⟨bd, bt, bw, hhi⟩ := Lib.mul64_hi x y hx hy
  have ba := Lib.half_mul_le (a := x / 4294967296) (b := y / 4294967296) (by omega) (by omega)
  have bb := Lib.half_mul_le (a := x / 4294967296) (b := y % 4294967296) (by omega) (by omega)
  have bc := Lib.half_mul_le (a := x % 4294967296) (b := y / 4294967296) (by omega) (by omega)
  have ba' : x / 4294967296 * (y / 4294967296) < 18446744073709551616 := by omega
  have bb' : x / 4294967296 * (y % 4294967296) < 18446744073709551616 := by omega
  have bc' : x % 4294967296 * (y / 4294967296) < 18446744073709551616 := by omega
  have bh1 : x / 4294967296 * (y / 4294967296) + (x / 4294967296 * (y % 4294967296) + x % 4294967296 * (y % 4294967296) / 4294967296) / 4294967296 < 18446744073709551616 := by omega
  have bh : x / 4294967296 * (y / 4294967296) + (x / 4294967296 * (y % 4294967296) + x % 4294967296 * (y % 4294967296) / 4294967296) / 4294967296 + ((x / 4294967296 * (y % 4294967296) + x % 4294967296 * (y % 4294967296) / 4294967296) % 4294967296 + x % 4294967296 * (y / 4294967296)) / 4294967296 < 18446744073709551616 := by omega
  go_enter Try.func157, Try.ntmps157
  go_wp2
  simp only [Mul64.maskN x hx, Mul64.maskN y hy, Mul64.divN, Mul64.mulN, Mul64.addN, Mul64.wrapN _ bd, Mul64.wrapN _ bb', Mul64.wrapN _ bt, Mul64.maskN _ bt, Mul64.wrapN _ bc', Mul64.wrapN _ bw, Mul64.wrapN _ ba', Mul64.wrapN _ bh1, Mul64.wrapN _ bh, Mul64.wrapM (x * y)]
  rw [hhi]
  go_ret2
  exact ⟨rfl, rfl⟩
theorem dec_cast (m : Nat) : decide (m ≤ 1000000000) = decide ((m : Int) ≤ 1000000000) := by congr 1; apply propext; omega
/-- The number that a product leaves. -/
def smX (a b : Nat) : Int := wrap64 ((a * b % 18446744073709551616 : Nat) : Int)
theorem smX_ok {a b : Nat} (h : a * b ≤ 1000000000) : smX a b = ((a * b : Nat) : Int) := by
  unfold smX
  rw [Nat.mod_eq_of_lt (by omega)]
  unfold wrap64; omega
set_option maxRecDepth 100000 in
theorem small_any (a b : Nat) (w : World) (ha : a ≤ 9223372036854775807) (hb : b ≤ 9223372036854775807) :
    Calls Try.prog 132 #[.int .i64 (a : Int), .int .i64 (b : Int)] w fun e' w' => e' = .returned (.tuple #[.int .i64 (smX a b), .bool (decide (a * b ≤ 1000000000))]) ∧ w = w' := by
  have HM := Lib.hid (fun w' => mul64_full a b (by omega) (by omega) w')
  have e1 : IntKind.u64.wrap (a : Int) = (a : Int) := Mul64.wrapN a (by omega)
  have e2 : IntKind.u64.wrap (b : Int) = (b : Int) := Mul64.wrapN b (by omega)
  have HX := Lib.hid (show smX a b = wrap64 ((a * b % 18446744073709551616 : Nat) : Int) from rfl)
  generalize smX a b = X at *
  generalize a * b = m at *
  rcases Nat.lt_or_ge m 18446744073709551616 with h | h
  · have h1 : m / 18446744073709551616 = 0 := Nat.div_eq_of_lt h
    have h2 : m % 18446744073709551616 = m := Nat.mod_eq_of_lt h
    rw [h1, h2] at HM
    rw [h2] at HX
    clear h1 h2
    rcases Nat.lt_or_ge 1000000000 m with h9 | h9
    · have h8 : ¬ ((m : Int) ≤ 1000000000) := by omega
      go_enter Try.func132, Try.ntmps132
      go_wp2_with fail
      refine (HM.out _).mono ?_
      rintro e5 w5 ⟨rfl, rfl⟩
      go_wp2
      go_ret2
      exact ⟨by rw [dec_cast, HX.out]; rfl, rfl⟩
    · have h8 : ((m : Int) ≤ 1000000000) := by omega
      have HD := Lib.hid (show decide (m ≤ 1000000000) = true by simp; omega)
      have HX2 := Lib.hid (show X = (m : Int) by rw [HX.out]; unfold wrap64; omega)
      go_enter Try.func132, Try.ntmps132
      go_wp2_with fail
      refine (HM.out _).mono ?_
      rintro e5 w5 ⟨rfl, rfl⟩
      go_wp2
      go_ret2
      exact ⟨by rw [HD.out, HX2.out]; rfl, rfl⟩
  · have h1 : 0 < m / 18446744073709551616 := Nat.div_pos h (by omega)
    have HD := Lib.hid (show decide (m ≤ 1000000000) = false by simp; omega)
    generalize m / 18446744073709551616 = hi at *
    have hl : m % 18446744073709551616 < 18446744073709551616 := Nat.mod_lt _ (by omega)
    generalize m % 18446744073709551616 = lo at *
    have h3 : ((hi : Int) == 0) = false := by simp; omega
    have H9 := Lib.hid h
    clear h
    go_enter Try.func132, Try.ntmps132
    go_wp2_with fail
    refine (HM.out _).mono ?_
    rintro e5 w5 ⟨rfl, rfl⟩
    go_wp2
    go_ret2
    exact ⟨by rw [HD.out, HX.out]; rfl, rfl⟩
theorem quo_nat (a b : Nat) : (a : Int).tdiv (b : Int) = ((a / b : Nat) : Int) := by rw [Int.ofNat_tdiv]
theorem quo_nat' (a b : Nat) : (a : Int) / (b : Int) = ((a / b : Nat) : Int) := by simp
theorem gc_nat (a b : Nat) : gc (a : Int) (b : Int) = ((Nat.gcd a b : Nat) : Int) := by unfold gc; simp
set_option maxHeartbeats 4000000 in
set_option maxRecDepth 100000 in
theorem stress_any (a b : Int × Int) (v L : Nat) (ha : FrOk a) (hb : FrOk b) (hv0 : 0 < v) (hv1 : v ≤ 1000000) (hL0 : 0 < L) (hL1 : L ≤ 10000) :
    ∃ x y : Int, (smallQ (stq v a b L) = true → x = (stq v a b L).num ∧ y = (stq v a b L).den) ∧ ∀ w : World, Calls Try.prog 91 #[.int .i64 (v : Int), .agg #[.int .i64 a.1, .int .i64 a.2], .agg #[.int .i64 b.1, .int .i64 b.2], .int .i64 (L : Int)] w fun e' w' => e' = .returned (.tuple #[.agg #[.int .i64 x, .int .i64 y], .bool (smallQ (stq v a b L))]) ∧ Below w.heap.size w w' := by
  obtain ⟨a1, a2⟩ := a
  obtain ⟨b1, b2⟩ := b
  have ha' := ha
  have hb' := hb
  unfold FrOk at ha' hb'
  simp only at ha' hb'
  have p1 := Int.mul_le_mul_of_nonneg_right (show a1 ≤ 1000000000 by omega) (show 0 ≤ b2 by omega)
  have p2 := Int.mul_le_mul_of_nonneg_right (show -1000000000 ≤ a1 by omega) (show 0 ≤ b2 by omega)
  have p3 := Int.mul_le_mul_of_nonneg_right (show b1 ≤ 1000000000 by omega) (show 0 ≤ a2 by omega)
  have p4 := Int.mul_le_mul_of_nonneg_right (show -1000000000 ≤ b1 by omega) (show 0 ≤ a2 by omega)
  have p5 := Int.mul_le_mul_of_nonneg_right (show a2 ≤ 1000000000 by omega) (show 0 ≤ b2 by omega)
  have p6 : 0 < a2 * b2 := Int.mul_pos (by omega) (by omega)
  obtain ⟨hn, hd⟩ := stq_parts v L (a1, a2) (b1, b2) (show 0 < a2 by omega) (show 0 < b2 by omega) hv0 hL0
  simp only at hn hd
  generalize stq v (a1, a2) (b1, b2) L = q at *
  clear ha hb
  obtain ⟨M1, hM1⟩ : ∃ x, x = a1 * b2 := ⟨_, rfl⟩
  obtain ⟨M2, hM2⟩ : ∃ x, x = b1 * a2 := ⟨_, rfl⟩
  obtain ⟨M3, hM3⟩ : ∃ x, x = a2 * b2 := ⟨_, rfl⟩
  have m1 : a1 * b2 = M1 := hM1.symm
  have m2 : b1 * a2 = M2 := hM2.symm
  have m3 : a2 * b2 = M3 := hM3.symm
  clear hM1 hM2 hM3
  rw [m1] at p1 p2 hn hd
  rw [m2] at p3 p4 hn hd
  rw [m3] at p5 p6 hn hd
  have k1 : -1000000000000000000 ≤ M1 ∧ M1 ≤ 1000000000000000000 := by omega
  have k2 : -1000000000000000000 ≤ M2 ∧ M2 ≤ 1000000000000000000 := by omega
  have k3 : 0 < M3 ∧ M3 ≤ 1000000000000000000 := by omega
  clear p1 p2 p3 p4 p5 p6
  obtain ⟨D, hD⟩ : ∃ D : Nat, D = M3.toNat := ⟨_, rfl⟩
  obtain ⟨N, hN⟩ : ∃ N : Nat, N = (M1 - M2).natAbs := ⟨_, rfl⟩
  rw [← hN, ← hD] at hn hd
  obtain rfl : M3 = (D : Int) := by omega
  have hsz : sz (M1 - M2) = (N : Int) := by rw [sz_natAbs, hN]
  have hNb : N ≤ 2000000000000000000 := by omega
  have hDb : 0 < D ∧ D ≤ 1000000000000000000 := by omega
  clear hD hN
  have hsc := fun w' => size_any (M1 - M2) w' (by omega) (by omega)
  rw [hsz] at hsc
  have HSZ := Lib.hid hsc
  have hlc := fun w' => lowest_any (N : Int) (D : Int) w' (by omega) (by omega) (by omega) (by omega)
  unfold stP at hn
  unfold stQ at hd
  obtain ⟨c, hc⟩ : ∃ c, c = Nat.gcd v L := ⟨_, rfl⟩
  obtain ⟨g0, hg0⟩ : ∃ g, g = Nat.gcd N D := ⟨_, rfl⟩
  rw [← hc] at hn hd
  rw [← hg0] at hn hd
  rw [gc_nat, ← hg0, quo_nat, quo_nat'] at hlc
  have hc0 : 0 < c := by rw [hc]; exact Nat.gcd_pos_of_pos_left _ hv0
  have hg00 : 0 < g0 := by rw [hg0]; exact Nat.gcd_pos_of_pos_right _ hDb.1
  obtain ⟨v1, hv1e⟩ : ∃ x, x = v / c := ⟨_, rfl⟩
  obtain ⟨L1, hL1e⟩ : ∃ x, x = L / c := ⟨_, rfl⟩
  obtain ⟨N1, hN1e⟩ : ∃ x, x = N / g0 := ⟨_, rfl⟩
  obtain ⟨D1, hD1e⟩ : ∃ x, x = D / g0 := ⟨_, rfl⟩
  rw [← hv1e, ← hL1e, ← hN1e, ← hD1e] at hn hd
  rw [← hN1e, ← hD1e] at hlc
  have HLOW := Lib.hid hlc
  have v10 : 0 < v1 := by rw [hv1e, hc]; exact div_gcd_pos hv0
  have L10 : 0 < L1 := by rw [hL1e, hc]; exact div_gcd_pos' hL0
  have D10 : 0 < D1 := by rw [hD1e, hg0]; exact div_gcd_pos' hDb.1
  have v1b : v1 ≤ 1000000 := by rw [hv1e]; exact Nat.le_trans (Nat.div_le_self _ _) hv1
  have L1b : L1 ≤ 10000 := by rw [hL1e]; exact Nat.le_trans (Nat.div_le_self _ _) hL1
  have N1b : N1 ≤ 2000000000000000000 := by rw [hN1e]; exact Nat.le_trans (Nat.div_le_self _ _) hNb
  have D1b : D1 ≤ 1000000000000000000 := by rw [hD1e]; exact Nat.le_trans (Nat.div_le_self _ _) hDb.2
  have r1 : (v : Int).tdiv (c : Int) = (v1 : Int) := by rw [hv1e, quo_nat]
  have r2 : (L : Int).tdiv (c : Int) = (L1 : Int) := by rw [hL1e, quo_nat]
  have r1' : (v : Int) / (c : Int) = (v1 : Int) := by rw [hv1e, quo_nat']
  have r2' : (L : Int) / (c : Int) = (L1 : Int) := by rw [hL1e, quo_nat']
  have hdv := fun w' => divisor_any (v : Int) (L : Int) w' (by omega) (by omega) (by omega) (by omega)
  rw [gc_nat, ← hc] at hdv
  have HDV := Lib.hid hdv
  obtain ⟨g, hg⟩ : ∃ g, g = Nat.gcd v1 D1 := ⟨_, rfl⟩
  obtain ⟨h, hh⟩ : ∃ g, g = Nat.gcd N1 L1 := ⟨_, rfl⟩
  have hdg := fun w' => divisor_any (v1 : Int) (D1 : Int) w' (by omega) (by omega) (by omega) (by omega)
  have hdh := fun w' => divisor_any (N1 : Int) (L1 : Int) w' (by omega) (by omega) (by omega) (by omega)
  rw [gc_nat, ← hg] at hdg
  rw [gc_nat, ← hh] at hdh
  have HDG := Lib.hid hdg
  have HDH := Lib.hid hdh
  rw [← hg, ← hh] at hn hd
  have g00 : 0 < g := by rw [hg]; exact Nat.gcd_pos_of_pos_left _ v10
  have h00 : 0 < h := by rw [hh]; exact Nat.gcd_pos_of_pos_right _ L10
  clear hv1e hL1e hN1e hD1e hc hg0 hg hh hlc hsc hsz hdv hdg hdh hg00
  obtain ⟨A, hA⟩ : ∃ x, x = v1 / g := ⟨_, rfl⟩
  obtain ⟨B, hB⟩ : ∃ x, x = N1 / h := ⟨_, rfl⟩
  obtain ⟨C, hC⟩ : ∃ x, x = D1 / g := ⟨_, rfl⟩
  obtain ⟨E, hE⟩ : ∃ x, x = L1 / h := ⟨_, rfl⟩
  rw [← hA, ← hB] at hn
  rw [← hC, ← hE] at hd
  have Ab : A ≤ 1000000 := by rw [hA]; exact Nat.le_trans (Nat.div_le_self _ _) v1b
  have Bb : B ≤ 2000000000000000000 := by rw [hB]; exact Nat.le_trans (Nat.div_le_self _ _) N1b
  have Cb : C ≤ 1000000000000000000 := by rw [hC]; exact Nat.le_trans (Nat.div_le_self _ _) D1b
  have Eb : E ≤ 10000 := by rw [hE]; exact Nat.le_trans (Nat.div_le_self _ _) L1b
  have s1 : (v1 : Int).tdiv (g : Int) = (A : Int) := by rw [hA, quo_nat]
  have s2 : (N1 : Int).tdiv (h : Int) = (B : Int) := by rw [hB, quo_nat]
  have s3 : (D1 : Int).tdiv (g : Int) = (C : Int) := by rw [hC, quo_nat]
  have s4 : (L1 : Int).tdiv (h : Int) = (E : Int) := by rw [hE, quo_nat]
  have s1' : (v1 : Int) / (g : Int) = (A : Int) := by rw [hA, quo_nat']
  have s2' : (N1 : Int) / (h : Int) = (B : Int) := by rw [hB, quo_nat']
  have s3' : (D1 : Int) / (g : Int) = (C : Int) := by rw [hC, quo_nat']
  have s4' : (L1 : Int) / (h : Int) = (E : Int) := by rw [hE, quo_nat']
  clear hA hB hC hE
  have HS1 := Lib.hid (fun w' => small_any A B w' (by omega) (by omega))
  have HS2 := Lib.hid (fun w' => small_any C E w' (by omega) (by omega))
  have hsq : smallQ q = (decide (A * B ≤ 1000000000) && decide (C * E ≤ 1000000000)) := by
    unfold smallQ wi
    rw [hn, hd]
    have hd1 := den_pos q
    rw [hd] at hd1
    rw [dec_cast, dec_cast, show decide ((-1000000000 : Int) ≤ ((A * B : Nat) : Int)) = true by simp; omega, show decide ((1 : Int) ≤ ((C * E : Nat) : Int)) = true by simp only [decide_eq_true_eq]; omega, Bool.true_and, Bool.true_and]
  rw [hsq]
  have HND := Lib.hid (And.intro hn hd)
  clear hn hd hsq
  obtain ⟨o1, ho1⟩ : ∃ x, x = decide (A * B ≤ 1000000000) := ⟨_, rfl⟩
  obtain ⟨o2, ho2⟩ : ∃ x, x = decide (C * E ≤ 1000000000) := ⟨_, rfl⟩
  rw [← ho1, ← ho2]
  rw [← ho1] at HS1
  rw [← ho2] at HS2
  have HO1 := Lib.hid ho1
  have HO2 := Lib.hid ho2
  clear ho1 ho2
  have cc : ((c : Int) == 0) = false := by simp; omega
  have cg : ((g : Int) == 0) = false := by simp; omega
  have ch : ((h : Int) == 0) = false := by simp; omega
  have HF := Lib.hid (fun (h : (o1 && o2) = true) => show smX A B = q.num ∧ smX C E = q.den by
    rw [HO1.out, HO2.out] at h
    simp only [Bool.and_eq_true, decide_eq_true_eq] at h
    rw [smX_ok h.1, smX_ok h.2, HND.out.1, HND.out.2]
    exact ⟨rfl, rfl⟩)
  clear HO1 HO2 HND
  refine ⟨smX A B, smX C E, HF.out, fun w => ?_⟩
  clear HF
  go_enter Try.func91, Try.ntmps91
  go_wp2_with fail
  generalize hW : World.alloc _ _ = w8 at *
  have hb8 : Below w.heap.size w w8 := by rw [← hW]; (repeat' (first | (with_reducible exact Below.refl _ _) | (with_reducible assumption) | (with_reducible refine Below.drewN ?_ _) | (with_reducible refine Below.alloc ?_ ?_ _) | (with_reducible refine Below.drew ?_) | (with_reducible refine Below.setCell ?_ ?_ _) | (with_reducible refine Below.step (by assumption) ?_ ?_) | (with_reducible exact And.left (by assumption)) | go_size))
  have hz8 := hb8.size
  have x0 : w8.cell? ⟨w.heap.size, 0, none⟩ = some (.int .i64 a1) := by { rw [← hW]; clear hW; go_simp }
  have x1 : w8.cell? ⟨w.heap.size, 1, none⟩ = some (.int .i64 a2) := by { rw [← hW]; clear hW; go_simp }
  have y0 : w8.cell? ⟨w.heap.size + 1, 0, none⟩ = some (.int .i64 b1) := by { rw [← hW]; clear hW; go_simp }
  have y1 : w8.cell? ⟨w.heap.size + 1, 1, none⟩ = some (.int .i64 b2) := by { rw [← hW]; clear hW; go_simp }
  have z0 : w8.cell? ⟨w.heap.size + 1 + 1, 0, none⟩ = some (.int .i64 0) := by { rw [← hW]; clear hW; go_simp }
  have z1 : w8.cell? ⟨w.heap.size + 1 + 1, 1, none⟩ = some (.int .i64 0) := by { rw [← hW]; clear hW; go_simp }
  have f0 : w8.frozen? ⟨w.heap.size + 1 + 1, 0, none⟩ = false := by { rw [← hW]; clear hW; go_simp }
  have f1 : w8.frozen? ⟨w.heap.size + 1 + 1, 1, none⟩ = false := by { rw [← hW]; clear hW; go_simp }
  have l0 : w.heap.size < w8.heap.size := by rw [← hW]; simp; omega
  have l1 : w.heap.size + 1 < w8.heap.size := by rw [← hW]; simp
  have l2 : w.heap.size + 1 + 1 < w8.heap.size := by rw [← hW]; simp
  have HB8 := Lib.hid hb8
  clear hW hb8
  go_wp2_with fail
  go_cut [10] from 18 to 35 (fun v10 wx => ∃ X : Nat, v10 = .pointer (some ⟨X, 0, none⟩) ∧ wx.cell? ⟨X, 0, none⟩ = some (.int .i64 (N1 : Int)) ∧ wx.cell? ⟨X, 1, none⟩ = some (.int .i64 (D1 : Int)) ∧ X < wx.heap.size ∧ Hid (Below w8.heap.size w8 wx))
  case first =>
    have HN := Lib.hid (Below.refl w8.heap.size w8).drew
    refine wp_region_laterT (B := w8.heap.size) (.head 0 (.head 1 (.head 2 (.head 3 (.head 4 (.head 5 (.head 6 (.head 7 (.head 8 (.head 9 (.head 10 (.head 12 (.head 13 (.head 14 (.head 15 (.head 16 (.two 11 (.two 17 (.one 18 (.one 19 .done)) 18 (.one 17 (.one 19 .done))) 18 (.one 11 (.one 17 (.one 19 .done)))))))))))))))))))) (by kernel_rfl) (by kernel_rfl) ?_
    repeat (refine tree_head rfl ?_; (show wpQuiet _ _ _ _ (_ :: _) _; go_big_quiet_step (fail)); refine wpQuiet_nil ?_)
    refine tree_two rfl rfl ?_ ?_
    · go_wp2_with fail
      refine (HSZ.out _).mono ?_
      rintro ex wsame ⟨rfl, rfl⟩
      go_wp2_with fail
      refine tailL_mk HN.out ?_
      repeat (refine tree_head rfl ?_; (show wpQuiet _ _ _ _ (_ :: _) _; go_big_quiet_step (fail)); refine wpQuiet_nil ?_)
      refine tree_two rfl rfl ?_ ?_
      · go_wp2_with fail
        refine (HLOW.out _).mono ?_
        rintro ex wx2 ⟨rfl, hbx⟩
        have hzx := hbx.size
        have HN := Lib.hid (HN.out.trans (hbx.mono HN.out.size))
        clear hbx
        go_wp2_with fail
        refine tailL_mk HN.out ?_
        repeat (refine tree_head rfl ?_; (show wpQuiet _ _ _ _ (_ :: _) _; go_big_quiet_step (fail)); refine wpQuiet_nil ?_)
        refine tree_one rfl ?_
        go_wp2_with fail
        obtain ⟨X9, hX9⟩ : ∃ X, X = wx2.heap.size := ⟨_, rfl⟩
        have hNX : w8.heap.size ≤ X9 := by rw [hX9]; exact HN.out.size
        have hx9 : (wx2.alloc (Obj.cells #[.int .i64 0, .int .i64 0] 39)).heap[X9]? = some (.cells #[.int .i64 0, .int .i64 0] 39) := by rw [hX9]; exact heap_alloc_new _ _
        have l9 : X9 < (wx2.alloc (Obj.cells #[.int .i64 0, .int .i64 0] 39)).heap.size := by rw [hX9]; simp
        have hs9 : (wx2.alloc (Obj.cells #[.int .i64 0, .int .i64 0] 39)).heap.size = wx2.heap.size + 1 := by simp
        have hbx : Below wx2.heap.size wx2 (wx2.alloc (Obj.cells #[.int .i64 0, .int .i64 0] 39)) := by (repeat' (first | (with_reducible exact Below.refl _ _) | (with_reducible assumption) | (with_reducible refine Below.drewN ?_ _) | (with_reducible refine Below.alloc ?_ ?_ _) | (with_reducible refine Below.drew ?_) | (with_reducible refine Below.setCell ?_ ?_ _) | (with_reducible refine Below.step (by assumption) ?_ ?_) | (with_reducible exact And.left (by assumption)) | go_size))
        try simp only [← hX9]
        generalize (wx2.alloc (Obj.cells #[.int .i64 0, .int .i64 0] 39)) = wx3 at *
        have HX9 := Lib.hid (And.intro hX9 hs9)
        have HN := Lib.hid (HN.out.trans (hbx.mono HN.out.size))
        clear hbx hX9 hs9
        refine tailL_mk HN.out ?_
        repeat (refine tree_head rfl ?_; (show wpQuiet _ _ _ _ (_ :: _) _; go_big_quiet_step (fail)); refine wpQuiet_nil ?_)
        refine tree_one rfl ?_
        have c90 := cell_of_row _ _ 0 _ _ _ hx9
        have f90 := frozen_of_row _ _ 0 _ _ hx9
        have c91 := cell_of_row _ _ 1 _ _ _ hx9
        have f91 := frozen_of_row _ _ 1 _ _ hx9
        simp only [List.getElem?_toArray, List.getElem?_cons_zero, List.getElem?_cons_succ] at c90 c91
        go_wp2_with fail
        have HN := Lib.hid (show Below w8.heap.size w8 ((wx3.setCell ⟨X9, 0, none⟩ (.int .i64 (N1 : Int))).setCell ⟨X9, 1, none⟩ (.int .i64 (D1 : Int))) from Below.setCell (Below.setCell (HN.out) hNX _) hNX _)
        have hxo := hx9
        have hx9 : ((wx3.setCell ⟨X9, 0, none⟩ (.int .i64 (N1 : Int))).setCell ⟨X9, 1, none⟩ (.int .i64 (D1 : Int))).heap[X9]? = some (.cells #[.int .i64 (N1 : Int), .int .i64 (D1 : Int)] 39) := blk_set (blk_set (hx9) 0 (.int .i64 (N1 : Int))) 1 (.int .i64 (D1 : Int))
        refine tailL_mk HN.out ?_
        repeat (refine tree_head rfl ?_; (show wpQuiet _ _ _ _ (_ :: _) _; go_big_quiet_step (fail)); refine wpQuiet_nil ?_)
        refine tree_done ?_
        go_wp2_with fail
        go_meet
        case rel => exact ⟨X9, rfl, by go_simp, by go_simp, by simpa using l9, HN⟩
      · go_wp2_with fail
        obtain ⟨X9, hX9⟩ : ∃ X, X = w8.heap.size := ⟨_, rfl⟩
        have hNX : w8.heap.size ≤ X9 := by rw [hX9]; exact HN.out.size
        have hx9 : (w8.alloc (Obj.cells #[.int .i64 0, .int .i64 0] 39)).drew.heap[X9]? = some (.cells #[.int .i64 0, .int .i64 0] 39) := by rw [hX9]; exact heap_alloc_new _ _
        have l9 : X9 < (w8.alloc (Obj.cells #[.int .i64 0, .int .i64 0] 39)).drew.heap.size := by rw [hX9]; simp
        have hs9 : (w8.alloc (Obj.cells #[.int .i64 0, .int .i64 0] 39)).drew.heap.size = w8.heap.size + 1 := by simp
        have hbx : Below w8.heap.size w8 (w8.alloc (Obj.cells #[.int .i64 0, .int .i64 0] 39)).drew := by (repeat' (first | (with_reducible exact Below.refl _ _) | (with_reducible assumption) | (with_reducible refine Below.drewN ?_ _) | (with_reducible refine Below.alloc ?_ ?_ _) | (with_reducible refine Below.drew ?_) | (with_reducible refine Below.setCell ?_ ?_ _) | (with_reducible refine Below.step (by assumption) ?_ ?_) | (with_reducible exact And.left (by assumption)) | go_size))
        try simp only [← hX9]
        generalize (w8.alloc (Obj.cells #[.int .i64 0, .int .i64 0] 39)).drew = wx5 at *
        have HX9 := Lib.hid (And.intro hX9 hs9)
        have HN := Lib.hid hbx
        clear hbx hX9 hs9
        refine tailL_mk HN.out ?_
        repeat (refine tree_head rfl ?_; (show wpQuiet _ _ _ _ (_ :: _) _; go_big_quiet_step (fail)); refine wpQuiet_nil ?_)
        refine tree_one rfl ?_
        go_wp2_with fail
        refine (HLOW.out _).mono ?_
        rintro ex wx6 ⟨rfl, hbx⟩
        have hzx := hbx.size
        have HN := Lib.hid (HN.out.trans (hbx.mono HN.out.size))
        have hx9 := (hbx.block X9 l9).trans hx9
        have l9 := Nat.lt_of_lt_of_le l9 hbx.size
        clear hbx
        go_wp2_with fail
        refine tailL_mk HN.out ?_
        repeat (refine tree_head rfl ?_; (show wpQuiet _ _ _ _ (_ :: _) _; go_big_quiet_step (fail)); refine wpQuiet_nil ?_)
        refine tree_one rfl ?_
        have c90 := cell_of_row _ _ 0 _ _ _ hx9
        have f90 := frozen_of_row _ _ 0 _ _ hx9
        have c91 := cell_of_row _ _ 1 _ _ _ hx9
        have f91 := frozen_of_row _ _ 1 _ _ hx9
        simp only [List.getElem?_toArray, List.getElem?_cons_zero, List.getElem?_cons_succ] at c90 c91
        go_wp2_with fail
        have HN := Lib.hid (show Below w8.heap.size w8 ((wx6.setCell ⟨X9, 0, none⟩ (.int .i64 (N1 : Int))).setCell ⟨X9, 1, none⟩ (.int .i64 (D1 : Int))) from Below.setCell (Below.setCell (HN.out) hNX _) hNX _)
        have hxo := hx9
        have hx9 : ((wx6.setCell ⟨X9, 0, none⟩ (.int .i64 (N1 : Int))).setCell ⟨X9, 1, none⟩ (.int .i64 (D1 : Int))).heap[X9]? = some (.cells #[.int .i64 (N1 : Int), .int .i64 (D1 : Int)] 39) := blk_set (blk_set (hx9) 0 (.int .i64 (N1 : Int))) 1 (.int .i64 (D1 : Int))
        refine tailL_mk HN.out ?_
        repeat (refine tree_head rfl ?_; (show wpQuiet _ _ _ _ (_ :: _) _; go_big_quiet_step (fail)); refine wpQuiet_nil ?_)
        refine tree_done ?_
        go_wp2_with fail
        go_meet
        case rel => exact ⟨X9, rfl, by go_simp, by go_simp, by simpa using l9, HN⟩
    · go_wp2_with fail
      obtain ⟨X9, hX9⟩ : ∃ X, X = w8.heap.size := ⟨_, rfl⟩
      have hNX : w8.heap.size ≤ X9 := by rw [hX9]; exact HN.out.size
      have hx9 : (w8.alloc (Obj.cells #[.int .i64 0, .int .i64 0] 39)).drew.heap[X9]? = some (.cells #[.int .i64 0, .int .i64 0] 39) := by rw [hX9]; exact heap_alloc_new _ _
      have l9 : X9 < (w8.alloc (Obj.cells #[.int .i64 0, .int .i64 0] 39)).drew.heap.size := by rw [hX9]; simp
      have hs9 : (w8.alloc (Obj.cells #[.int .i64 0, .int .i64 0] 39)).drew.heap.size = w8.heap.size + 1 := by simp
      have hbx : Below w8.heap.size w8 (w8.alloc (Obj.cells #[.int .i64 0, .int .i64 0] 39)).drew := by (repeat' (first | (with_reducible exact Below.refl _ _) | (with_reducible assumption) | (with_reducible refine Below.drewN ?_ _) | (with_reducible refine Below.alloc ?_ ?_ _) | (with_reducible refine Below.drew ?_) | (with_reducible refine Below.setCell ?_ ?_ _) | (with_reducible refine Below.step (by assumption) ?_ ?_) | (with_reducible exact And.left (by assumption)) | go_size))
      try simp only [← hX9]
      generalize (w8.alloc (Obj.cells #[.int .i64 0, .int .i64 0] 39)).drew = wx8 at *
      have HX9 := Lib.hid (And.intro hX9 hs9)
      have HN := Lib.hid hbx
      clear hbx hX9 hs9
      refine tailL_mk HN.out ?_
      repeat (refine tree_head rfl ?_; (show wpQuiet _ _ _ _ (_ :: _) _; go_big_quiet_step (fail)); refine wpQuiet_nil ?_)
      refine tree_one rfl ?_
      go_wp2_with fail
      refine (HSZ.out _).mono ?_
      rintro ex wsame ⟨rfl, rfl⟩
      go_wp2_with fail
      refine tailL_mk HN.out ?_
      repeat (refine tree_head rfl ?_; (show wpQuiet _ _ _ _ (_ :: _) _; go_big_quiet_step (fail)); refine wpQuiet_nil ?_)
      refine tree_one rfl ?_
      go_wp2_with fail
      refine (HLOW.out _).mono ?_
      rintro ex wx10 ⟨rfl, hbx⟩
      have hzx := hbx.size
      have HN := Lib.hid (HN.out.trans (hbx.mono HN.out.size))
      have hx9 := (hbx.block X9 l9).trans hx9
      have l9 := Nat.lt_of_lt_of_le l9 hbx.size
      clear hbx
      go_wp2_with fail
      refine tailL_mk HN.out ?_
      repeat (refine tree_head rfl ?_; (show wpQuiet _ _ _ _ (_ :: _) _; go_big_quiet_step (fail)); refine wpQuiet_nil ?_)
      refine tree_one rfl ?_
      have c90 := cell_of_row _ _ 0 _ _ _ hx9
      have f90 := frozen_of_row _ _ 0 _ _ hx9
      have c91 := cell_of_row _ _ 1 _ _ _ hx9
      have f91 := frozen_of_row _ _ 1 _ _ hx9
      simp only [List.getElem?_toArray, List.getElem?_cons_zero, List.getElem?_cons_succ] at c90 c91
      go_wp2_with fail
      have HN := Lib.hid (show Below w8.heap.size w8 ((wx10.setCell ⟨X9, 0, none⟩ (.int .i64 (N1 : Int))).setCell ⟨X9, 1, none⟩ (.int .i64 (D1 : Int))) from Below.setCell (Below.setCell (HN.out) hNX _) hNX _)
      have hxo := hx9
      have hx9 : ((wx10.setCell ⟨X9, 0, none⟩ (.int .i64 (N1 : Int))).setCell ⟨X9, 1, none⟩ (.int .i64 (D1 : Int))).heap[X9]? = some (.cells #[.int .i64 (N1 : Int), .int .i64 (D1 : Int)] 39) := blk_set (blk_set (hx9) 0 (.int .i64 (N1 : Int))) 1 (.int .i64 (D1 : Int))
      refine tailL_mk HN.out ?_
      repeat (refine tree_head rfl ?_; (show wpQuiet _ _ _ _ (_ :: _) _; go_big_quiet_step (fail)); refine wpQuiet_nil ?_)
      refine tree_done ?_
      go_wp2_with fail
      go_meet
      case rel => exact ⟨X9, rfl, by go_simp, by go_simp, by simpa using l9, HN⟩
  case rest =>
    obtain ⟨wa, rfl⟩ : ∃ w', w' = wc := ⟨wc, rfl⟩
    obtain ⟨X, rfl, x0c, x1c, lX, hN⟩ := hcut
    have hba := hN.out
    have hza := hba.size
    have z0a : wa.cell? ⟨w.heap.size + 1 + 1, 0, none⟩ = some (.int .i64 0) := by { rw [cellB hba _ _ (by first | (simp; done) | (simp; omega) | omega)]; all_goals (first | assumption | go_simp) }; have z1a : wa.cell? ⟨w.heap.size + 1 + 1, 1, none⟩ = some (.int .i64 0) := by { rw [cellB hba _ _ (by first | (simp; done) | (simp; omega) | omega)]; all_goals (first | assumption | go_simp) }; have f0a : wa.frozen? ⟨w.heap.size + 1 + 1, 0, none⟩ = false := by { rw [frozenB hba _ _ (by first | (simp; done) | (simp; omega) | omega)]; all_goals (first | assumption | go_simp) }; have f1a : wa.frozen? ⟨w.heap.size + 1 + 1, 1, none⟩ = false := by { rw [frozenB hba _ _ (by first | (simp; done) | (simp; omega) | omega)]; all_goals (first | assumption | go_simp) }; have l2a : w.heap.size + 1 + 1 < wa.heap.size := by { omega }
    have HBa := Lib.hid (HB8.out.trans (hba.mono HB8.out.size))
    clear hba hN x0 x1 y0 y1 z0 z1 f0 f1 l0 l1 l2 HSZ HLOW
    have hZw : w.heap.size ≤ w.heap.size + 1 + 1 := by omega
    generalize w.heap.size + 1 + 1 = Z at *
    go_wp2_with fail
    refine (HDV.out _).mono ?_
    rintro e9 w9 ⟨rfl, n9, rfl⟩
    go_wp2_with fail
    refine later_all (by kernel_rfl) (by kernel_rfl) ?_; repeat go_big_quiet_step(fail)
    refine wpQuiet_nil ?_; intro wb hbb
    have hzb := hbb.size
    have hbb := (Below.refl wa.heap.size wa).drewN n9 |>.trans hbb
    have hzb := hbb.size
    have x0b : wb.cell? ⟨X, 0, none⟩ = some (.int .i64 (N1 : Int)) := by { rw [cellB hbb _ _ (by first | (simp; done) | (simp; omega) | omega)]; all_goals (first | assumption | go_simp) }; have x1b : wb.cell? ⟨X, 1, none⟩ = some (.int .i64 (D1 : Int)) := by { rw [cellB hbb _ _ (by first | (simp; done) | (simp; omega) | omega)]; all_goals (first | assumption | go_simp) }; have z0b : wb.cell? ⟨Z, 0, none⟩ = some (.int .i64 0) := by { rw [cellB hbb _ _ (by first | (simp; done) | (simp; omega) | omega)]; all_goals (first | assumption | go_simp) }; have z1b : wb.cell? ⟨Z, 1, none⟩ = some (.int .i64 0) := by { rw [cellB hbb _ _ (by first | (simp; done) | (simp; omega) | omega)]; all_goals (first | assumption | go_simp) }; have f0b : wb.frozen? ⟨Z, 0, none⟩ = false := by { rw [frozenB hbb _ _ (by first | (simp; done) | (simp; omega) | omega)]; all_goals (first | assumption | go_simp) }; have f1b : wb.frozen? ⟨Z, 1, none⟩ = false := by { rw [frozenB hbb _ _ (by first | (simp; done) | (simp; omega) | omega)]; all_goals (first | assumption | go_simp) }; have lXb : X < wb.heap.size := by { omega }; have lZb : Z < wb.heap.size := by { omega }
    have HBb := Lib.hid (HBa.out.trans (hbb.mono HBa.out.size))
    clear hbb x0c x1c lX z0a z1a f0a f1a l2a HBa
    go_wp2_with fail
    refine later_all (by kernel_rfl) (by kernel_rfl) ?_; repeat go_big_quiet_step(first | with_reducible exact calls_later_drew (HDG.out _) | with_reducible exact calls_later_drew (HDH.out _))
    refine wpQuiet_nil ?_; intro wc hbc
    have hzc := hbc.size
    have x0c : wc.cell? ⟨X, 0, none⟩ = some (.int .i64 (N1 : Int)) := by { rw [cellB hbc _ _ (by first | (simp; done) | (simp; omega) | omega)]; all_goals (first | assumption | go_simp) }; have x1c : wc.cell? ⟨X, 1, none⟩ = some (.int .i64 (D1 : Int)) := by { rw [cellB hbc _ _ (by first | (simp; done) | (simp; omega) | omega)]; all_goals (first | assumption | go_simp) }; have z0c : wc.cell? ⟨Z, 0, none⟩ = some (.int .i64 0) := by { rw [cellB hbc _ _ (by first | (simp; done) | (simp; omega) | omega)]; all_goals (first | assumption | go_simp) }; have z1c : wc.cell? ⟨Z, 1, none⟩ = some (.int .i64 0) := by { rw [cellB hbc _ _ (by first | (simp; done) | (simp; omega) | omega)]; all_goals (first | assumption | go_simp) }; have f0c : wc.frozen? ⟨Z, 0, none⟩ = false := by { rw [frozenB hbc _ _ (by first | (simp; done) | (simp; omega) | omega)]; all_goals (first | assumption | go_simp) }; have f1c : wc.frozen? ⟨Z, 1, none⟩ = false := by { rw [frozenB hbc _ _ (by first | (simp; done) | (simp; omega) | omega)]; all_goals (first | assumption | go_simp) }; have lXc : X < wc.heap.size := by { omega }; have lZc : Z < wc.heap.size := by { omega }
    have HBc := Lib.hid (HBb.out.trans (hbc.mono HBb.out.size))
    clear hbc x0b x1b lXb z0b z1b f0b f1b lZb HBb
    go_wp2_with fail
    refine later_all (by kernel_rfl) (by kernel_rfl) ?_; repeat go_big_quiet_step(exact calls_later_same (HS1.out _))
    refine wpQuiet_nil ?_; intro wd hbd
    have hzd := hbd.size
    have x0d : wd.cell? ⟨X, 0, none⟩ = some (.int .i64 (N1 : Int)) := by { rw [cellB hbd _ _ (by first | (simp; done) | (simp; omega) | omega)]; all_goals (first | assumption | go_simp) }; have x1d : wd.cell? ⟨X, 1, none⟩ = some (.int .i64 (D1 : Int)) := by { rw [cellB hbd _ _ (by first | (simp; done) | (simp; omega) | omega)]; all_goals (first | assumption | go_simp) }; have z0d : wd.cell? ⟨Z, 0, none⟩ = some (.int .i64 0) := by { rw [cellB hbd _ _ (by first | (simp; done) | (simp; omega) | omega)]; all_goals (first | assumption | go_simp) }; have z1d : wd.cell? ⟨Z, 1, none⟩ = some (.int .i64 0) := by { rw [cellB hbd _ _ (by first | (simp; done) | (simp; omega) | omega)]; all_goals (first | assumption | go_simp) }; have f0d : wd.frozen? ⟨Z, 0, none⟩ = false := by { rw [frozenB hbd _ _ (by first | (simp; done) | (simp; omega) | omega)]; all_goals (first | assumption | go_simp) }; have f1d : wd.frozen? ⟨Z, 1, none⟩ = false := by { rw [frozenB hbd _ _ (by first | (simp; done) | (simp; omega) | omega)]; all_goals (first | assumption | go_simp) }; have lXd : X < wd.heap.size := by { omega }; have lZd : Z < wd.heap.size := by { omega }
    have HBd := Lib.hid (HBc.out.trans (hbd.mono HBc.out.size))
    clear hbd x0c x1c lXc z0c z1c f0c f1c lZc HBc
    go_wp2_with fail
    refine later_all (by kernel_rfl) (by kernel_rfl) ?_; repeat go_big_quiet_step(exact calls_later_same (HS2.out _))
    refine wpQuiet_nil ?_; intro we hbe
    have hze := hbe.size
    have x0e : we.cell? ⟨X, 0, none⟩ = some (.int .i64 (N1 : Int)) := by { rw [cellB hbe _ _ (by first | (simp; done) | (simp; omega) | omega)]; all_goals (first | assumption | go_simp) }; have x1e : we.cell? ⟨X, 1, none⟩ = some (.int .i64 (D1 : Int)) := by { rw [cellB hbe _ _ (by first | (simp; done) | (simp; omega) | omega)]; all_goals (first | assumption | go_simp) }; have z0e : we.cell? ⟨Z, 0, none⟩ = some (.int .i64 0) := by { rw [cellB hbe _ _ (by first | (simp; done) | (simp; omega) | omega)]; all_goals (first | assumption | go_simp) }; have z1e : we.cell? ⟨Z, 1, none⟩ = some (.int .i64 0) := by { rw [cellB hbe _ _ (by first | (simp; done) | (simp; omega) | omega)]; all_goals (first | assumption | go_simp) }; have f0e : we.frozen? ⟨Z, 0, none⟩ = false := by { rw [frozenB hbe _ _ (by first | (simp; done) | (simp; omega) | omega)]; all_goals (first | assumption | go_simp) }; have f1e : we.frozen? ⟨Z, 1, none⟩ = false := by { rw [frozenB hbe _ _ (by first | (simp; done) | (simp; omega) | omega)]; all_goals (first | assumption | go_simp) }; have lXe : X < we.heap.size := by { omega }; have lZe : Z < we.heap.size := by { omega }
    have HBe := Lib.hid (HBd.out.trans (hbe.mono HBd.out.size))
    clear hbe x0d x1d lXd z0d z1d f0d f1d lZd HBd
    cases o1
    · go_wp2
      refine bodyPost_ret (v := .tuple #[.agg #[.int .i64 (smX A B), .int .i64 (smX C E)], .bool (false && o2)]) (by simp [results, Try.results91, go_sem, *]) rfl ⟨rfl, ?_⟩
      have := HBe.out
      (repeat' (first | (with_reducible exact Below.refl _ _) | (with_reducible assumption) | (with_reducible refine Below.drewN ?_ _) | (with_reducible refine Below.alloc ?_ ?_ _) | (with_reducible refine Below.drew ?_) | (with_reducible refine Below.setCell ?_ ?_ _) | (with_reducible refine Below.step (by assumption) ?_ ?_) | (with_reducible exact And.left (by assumption)) | go_size))
    · go_wp2
      refine bodyPost_ret (v := .tuple #[.agg #[.int .i64 (smX A B), .int .i64 (smX C E)], .bool (true && o2)]) (by simp [results, Try.results91, go_sem, *]) rfl ⟨rfl, ?_⟩
      have := HBe.out
      (repeat' (first | (with_reducible exact Below.refl _ _) | (with_reducible assumption) | (with_reducible refine Below.drewN ?_ _) | (with_reducible refine Below.alloc ?_ ?_ _) | (with_reducible refine Below.drew ?_) | (with_reducible refine Below.setCell ?_ ?_ _) | (with_reducible refine Below.step (by assumption) ?_ ?_) | (with_reducible exact And.left (by assumption)) | go_size))
end Go.Proofs.Ytbjgklifmillgaa
