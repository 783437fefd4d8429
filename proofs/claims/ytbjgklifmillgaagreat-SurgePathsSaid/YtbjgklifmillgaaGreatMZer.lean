import Derived.Shelf.Bits.Mul64
import Derived.Deep.CutRange
import Derived.Test.YtbjgklifmillgaaGreatMImp
import Derived.Test.YtbjgklifmillgaaGreatMIni
import Derived.Test.YtbjgklifmillgaaGreatMPf
import Derived.Test.YtbjgklifmillgaaGreatQTail
import Derived.Test.YtbjgklifmillgaaGreatSched
import Derived.Test.YtbjgklifmillgaaGreatSmall
/- Products modulo a number. -/
namespace Go.Proofs.YtbjgklifmillgaaGreat
open Go.RowKit
set_option linter.unusedVariables false

set_option maxHeartbeats 1000000 in
theorem mul64_any (x y : Nat) (hx : x < 4294967296) (hy : y < 4294967296) (w : World) :
    Calls Tryz.prog 132 #[.int .u64 (x : Int), .int .u64 (y : Int)] w fun e w' => e = .returned (.tuple #[.int .u64 0, .int .u64 ((x * y : Nat) : Int)]) ∧ w = w' := by
  have hm := Nat.mul_le_mul (show x ≤ 4294967295 by omega) (show y ≤ 4294967295 by omega)
  obtain ⟨m, hmm⟩ : ∃ m, m = x * y := ⟨_, rfl⟩
  rw [← hmm] at hm ⊢
  have e1 : (x : Int) * (y : Int) = (m : Int) := by rw [hmm]; simp
  have e2 : bits .and .u64 (x : Int) 4294967295 = (x : Int) := by rw [Mul64.maskN x (by omega)]; omega
  have e3 : bits .and .u64 (y : Int) 4294967295 = (y : Int) := by rw [Mul64.maskN y (by omega)]; omega
  have e4 : (x : Int) / 4294967296 = 0 := by omega
  have e5 : (y : Int) / 4294967296 = 0 := by omega
  have e6 : bits .and .u64 ((m : Int) / 4294967296) 4294967295 = (m : Int) / 4294967296 := by
    rw [show (m : Int) / 4294967296 = ((m / 4294967296 : Nat) : Int) by omega, Mul64.maskN _ (by omega)]; omega
  have e7 : (m : Int) / 4294967296 / 4294967296 = 0 := by omega
  have e8 : IntKind.u64.wrap (m : Int) = (m : Int) := Mul64.wrapN m (by omega)
  have e9 : IntKind.u64.wrap ((m : Int) / 4294967296) = (m : Int) / 4294967296 := by
    rw [show (m : Int) / 4294967296 = ((m / 4294967296 : Nat) : Int) by omega, Mul64.wrapN _ (by omega)]
  clear hmm
  go_enter Tryz.func132, Tryz.ntmps132
  go_wp2
  try simp only [e1, e2, e3, e4, e5, e6, e7, e8, e9, Int.zero_mul, Int.mul_zero, Int.zero_add, Int.add_zero, Int.zero_ediv]
  go_ret2
  exact ⟨rfl, rfl⟩
theorem div64_any (lo y : Nat) (hl : lo < 18446744073709551616) (hy : 0 < y) (hy2 : y < 18446744073709551616) (w : World) :
    Calls Tryz.prog 151 #[.int .u64 0, .int .u64 (lo : Int), .int .u64 (y : Int)] w fun e w' => e = .returned (.tuple #[.int .u64 ((lo / y : Nat) : Int), .int .u64 ((lo % y : Nat) : Int)]) ∧ ∃ n, w' = w.drewN n := by
  have e1 : ((y : Int) == 0) = false := by simp; omega
  have e2 : ¬ ((y : Int) ≤ 0) := by omega
  have e3 : (lo : Int).tdiv (y : Int) = ((lo / y : Nat) : Int) := by rw [Int.ofNat_tdiv]
  have e4 : (lo : Int).tmod (y : Int) = ((lo % y : Nat) : Int) := by rw [Int.ofNat_tmod]
  have e5 : (lo : Int) / (y : Int) = ((lo / y : Nat) : Int) := by simp
  have e6 : (lo : Int) % (y : Int) = ((lo % y : Nat) : Int) := by simp
  have q1 := Nat.div_le_self lo y
  have q2 := Nat.mod_le lo y
  generalize lo / y = q at *
  generalize lo % y = r at *
  go_enter Tryz.func151, Tryz.ntmps151
  go_wp2
  go_quiet (fail)
  go_wp2
  go_ret2
  exact ⟨rfl, _, rfl⟩
theorem modulo_eq (n p : Int) (hp : 0 < p) : (n.tmod p + p).tmod p = n % p := by
  rcases Int.le_total 0 n with h | h
  · rw [Int.tmod_eq_emod_of_nonneg h, Int.tmod_eq_emod_of_nonneg (by have := Int.emod_nonneg n (show p ≠ 0 by omega); omega), Int.add_emod_right, Int.emod_emod]
  · obtain ⟨m, rfl⟩ : ∃ m, n = -m := ⟨-n, by omega⟩
    have hm : 0 ≤ m := by omega
    have h1 : m % p < p := Int.emod_lt_of_pos m hp
    have h2 : 0 ≤ m % p := Int.emod_nonneg m (by omega)
    rw [Int.neg_tmod, Int.tmod_eq_emod_of_nonneg hm, Int.tmod_eq_emod_of_nonneg (by omega)]
    have h3 : m = p * (m / p) + m % p := (Int.mul_ediv_add_emod m p).symm
    have h4 : -m = -(m % p) + p + p * (-(m / p) - 1) := by
      have : p * (-(m / p) - 1) = -(p * (m / p)) - p := by rw [Int.mul_sub, Int.mul_neg, Int.mul_one]
      omega
    rw [h4, Int.add_mul_emod_self_left]
theorem modulo_any (n : Int) (p : Nat) (h0 : -1000000000000 ≤ n) (h1 : n ≤ 1000000000000) (hp : 0 < p) (hp2 : p ≤ 4294967296) (w : World) :
    Calls Tryz.prog 130 #[.int .i64 n, .int .i64 (p : Int)] w fun e w' => e = .returned (.int .i64 (n % (p : Int))) ∧ w = w' := by
  have hpi : (0 : Int) < (p : Int) := by omega
  have hr := modulo_eq n p hpi
  have hb := tmod_lt n p (by omega)
  have e1 : ((p : Int) == 0) = false := by simp; omega
  obtain ⟨t, ht⟩ : ∃ t, t = n.tmod (p : Int) := ⟨_, rfl⟩
  rw [← ht] at hr hb
  have hb2 : -4294967296 ≤ t ∧ t ≤ 4294967296 := by omega
  have ht2 : n.tmod (p : Int) = t := ht.symm
  have hr3 : 0 ≤ n % (p : Int) := Int.emod_nonneg n (by omega)
  have hr4 : n % (p : Int) < (p : Int) := Int.emod_lt_of_pos n hpi
  generalize n % (p : Int) = R at *
  clear ht hb
  go_enter Tryz.func130, Tryz.ntmps130
  go_wp2
  go_ret
  exact ⟨rfl, rfl⟩
theorem product_any (a b p : Nat) (ha : a < 4294967296) (hb : b < 4294967296) (hp : 0 < p) (hp2 : p ≤ 4294967296) (w : World) :
    Calls Tryz.prog 129 #[.int .i64 (a : Int), .int .i64 (b : Int), .int .i64 (p : Int)] w fun e w' => e = .returned (.int .i64 ((a * b % p : Nat) : Int)) ∧ ∃ n, w' = w.drewN n := by
  have hm := Nat.mul_le_mul (show a ≤ 4294967295 by omega) (show b ≤ 4294967295 by omega)
  have hr := Nat.mod_lt (a * b) hp
  have HMU := Lib.hid (fun w' => mul64_any a b ha hb w')
  have HDI := Lib.hid (fun w' => div64_any (a * b) p (by omega) hp (by omega) w')
  generalize a * b = m at *
  generalize m % p = r at *
  generalize m / p = q at *
  go_enter Tryz.func129, Tryz.ntmps129
  go_wp2_with fail
  refine (HMU.out _).mono ?_
  rintro e5 _ ⟨rfl, rfl⟩
  go_wp2_with fail
  refine (HDI.out _).mono ?_
  rintro e6 w6 ⟨rfl, k, rfl⟩
  go_wp2
  go_ret
  exact ⟨rfl, k, rfl⟩
end Go.Proofs.YtbjgklifmillgaaGreat

/- Whether terms add up to 0, modulo four numbers. -/
namespace Go.Proofs.YtbjgklifmillgaaGreat
open Go.RowKit
set_option linter.unusedVariables false

/-- Terms as cells: a number, a fraction. -/
def tcells (l : List (Int × Int × Int)) : List Value := l.flatMap fun f => [.int .i64 f.1, .int .i64 f.2.1, .int .i64 f.2.2]
abbrev gt (l : List (Int × Int × Int)) (i : Nat) : Int × Int × Int := l.getD i (0, 0, 0)
theorem tcells_length : ∀ l : List (Int × Int × Int), (tcells l).length = l.length * 3
  | [] => rfl
  | f :: r => by have := tcells_length r; simp only [tcells, List.flatMap_cons, List.length_append, List.length_cons, List.length_nil] at *; omega
theorem tcells_get : ∀ (l : List (Int × Int × Int)) (i : Nat), i < l.length → (tcells l)[i * 3]? = some (.int .i64 (gt l i).1) ∧ (tcells l)[i * 3 + 1]? = some (.int .i64 (gt l i).2.1) ∧ (tcells l)[i * 3 + 2]? = some (.int .i64 (gt l i).2.2)
  | [], i, h => by simp at h
  | f :: r, 0, _ => by simp [tcells]
  | f :: r, i + 1, h => by
    have := tcells_get r i (by simpa using h)
    simp only [tcells, List.flatMap_cons, List.cons_append, List.nil_append] at *
    rw [show (i + 1) * 3 = i * 3 + 1 + 1 + 1 by omega]
    simpa using this
def TermsR (w : World) (a : Option Addr) (n : Nat) (l : List (Int × Int × Int)) : Prop := SlR w a n 3 (tcells l)
theorem TermsR.len {w : World} {a : Option Addr} {n : Nat} {l : List (Int × Int × Int)} (h : TermsR w a n l) : l.length = n := by
  have := h.1; rw [tcells_length] at this; omega
theorem TermsR.below {w w' : World} {a : Option Addr} {n : Nat} {l : List (Int × Int × Int)} (h : TermsR w a n l) (hb : Below w.heap.size w w') : TermsR w' a n l := SlR.below h hb
theorem TermsR.addr {w : World} {a : Option Addr} {n : Nat} {l : List (Int × Int × Int)} (h : TermsR w a n l) (hn : 0 < n) :
    ∃ b o, a = some ⟨b, o, none⟩ ∧ b < w.heap.size ∧ ∀ i, i < n → w.cell? ⟨b, o + i * 3, none⟩ = some (.int .i64 (gt l i).1) ∧ w.cell? ⟨b, o + i * 3 + 1, none⟩ = some (.int .i64 (gt l i).2.1) ∧ w.cell? ⟨b, o + i * 3 + 2, none⟩ = some (.int .i64 (gt l i).2.2) := by
  obtain ⟨b, o, ha, hlt, hc⟩ := h.2.2 hn
  refine ⟨b, o, ha, hlt, fun i hi => ?_⟩
  have := tcells_get l i (by rw [h.len]; exact hi)
  exact ⟨hc _ _ this.1, by have := hc _ _ this.2.1; rwa [← Nat.add_assoc] at this, by have := hc _ _ this.2.2; rwa [← Nat.add_assoc] at this⟩

/-- A term times the other denominators up to one. -/
def tT (l : List (Int × Int × Int)) (i : Nat) : Nat → Int
  | 0 => (gt l i).1 * (gt l i).2.1
  | m + 1 => if m = i then tT l i m else tT l i m * (gt l m).2.2
/-- The sum of the first terms. -/
def tS (l : List (Int × Int × Int)) : Nat → Int
  | 0 => 0
  | i + 1 => tS l i + tT l i l.length
def pm (k : Nat) : Nat := [4294967291, 4294967279, 4294967231, 4294967197].getD k 1
theorem pm_pos (k : Nat) : 0 < pm k ∧ pm k ≤ 4294967296 := by
  rcases k with _ | _ | _ | _ | k <;> simp [pm]
def zUpto (l : List (Int × Int × Int)) : Nat → Bool
  | 0 => true
  | k + 1 => zUpto l k && decide (tS l l.length % (pm k : Int) = 0)
theorem zUpto_false (l : List (Int × Int × Int)) : ∀ (m k : Nat), zUpto l k = false → zUpto l (k + m) = false
  | 0, k, h => h
  | m + 1, k, h => by
    rw [show k + (m + 1) = (k + m) + 1 by omega, zUpto, zUpto_false l m k h]; rfl

theorem mod_mul3 (a b : Int) (p : Nat) (hp : 0 < p) : (((a % (p : Int)).toNat * (b % (p : Int)).toNat % p : Nat) : Int) = (a * b) % (p : Int) := by
  have h1 := Int.emod_nonneg a (show (p : Int) ≠ 0 by omega)
  have h2 := Int.emod_nonneg b (show (p : Int) ≠ 0 by omega)
  rw [Int.natCast_emod, Int.natCast_mul, Int.toNat_of_nonneg h1, Int.toNat_of_nonneg h2, ← Int.mul_emod]
theorem mod_mul2 (a : Int) (d p : Nat) (hp : 0 < p) : (((a % (p : Int)).toNat * d % p : Nat) : Int) = (a * (d : Int)) % (p : Int) := by
  have h1 := Int.emod_nonneg a (show (p : Int) ≠ 0 by omega)
  rw [Int.natCast_emod, Int.natCast_mul, Int.toNat_of_nonneg h1, Int.mul_emod, Int.emod_emod, ← Int.mul_emod]
theorem mod_lt {a : Int} {p : Nat} (h0 : 0 < p) (hp : p ≤ 4294967296) : 0 ≤ a % (p : Int) ∧ a % (p : Int) < p ∧ (a % (p : Int)).toNat < 4294967296 := by
  have h1 := Int.emod_nonneg a (show (p : Int) ≠ 0 by omega)
  have h2 := Int.emod_lt_of_pos a (show (0 : Int) < (p : Int) by omega)
  refine ⟨h1, h2, by omega⟩
set_option maxHeartbeats 4000000 in
set_option maxRecDepth 100000 in
theorem isZero_any (l : List (Int × Int × Int)) (a : Option Addr) (n c : Nat) (w : World) (hl : TermsR w a n l) (hn : n ≤ 100) (hb : ∀ i, i < n → -1000000000000 ≤ (gt l i).1 ∧ (gt l i).1 ≤ 1000000000000 ∧ -1000000000000 ≤ (gt l i).2.1 ∧ (gt l i).2.1 ≤ 1000000000000 ∧ 0 ≤ (gt l i).2.2 ∧ (gt l i).2.2 < 4294967296) :
    Calls Tryz.prog 96 #[.slice a n c] w fun e' w' => e' = .returned (.bool (zUpto l 4)) ∧ Below w.heap.size w w' := by
  have HL := Lib.hid hl
  have HB := Lib.hid hb
  have HLEN := Lib.hid hl.len
  clear hl hb
  go_enter Tryz.func96, Tryz.ntmps96
  go_wp2
  go_loopw [12] (fun i wr => ∃ k : Nat, i = .int .i64 k ∧ k ≤ 4 ∧ Hid (zUpto l k = true) ∧ Hid (Below w.heap.size w wr)) (fun i _ => 4 - (intOf i).toNat)
  case atStart => exact ⟨0, rfl, by omega, Lib.hid rfl, Lib.hid (Below.refl _ _)⟩
  case round =>
    obtain ⟨k, rfl, hk, hZ, hBr⟩ := hrel
    rcases Nat.lt_or_ge k 4 with hlt | hge
    · have i1 : (k : Int) < 4 := by omega
      have i2 : (0 : Int) ≤ (k : Int) := by omega
      obtain ⟨p, hp⟩ : ∃ p, p = pm k := ⟨_, rfl⟩
      have hpp := pm_pos k
      rw [← hp] at hpp
      obtain ⟨hp0, hp1⟩ := hpp
      have hidx : ∀ w' : World, (Instr.index 184 (.agg #[.int .i64 4294967291, .int .i64 4294967279, .int .i64 4294967231, .int .i64 4294967197]) (.int .i64 (k : Int))).run Tryz.prog w' = .ok (.int .i64 (p : Int)) w' := by
        intro w'
        rw [hp]
        rcases k with _ | _ | _ | _ | k
        · kernel_rfl
        · kernel_rfl
        · kernel_rfl
        · kernel_rfl
        · omega
      ·
        have HPK := Lib.hid hp
        clear hp
        have hpi : (0 : Int) < (p : Int) := by omega
        have hpe : ((p : Int) == 0) = false := by simp; omega
        obtain ⟨w0, rfl⟩ : ∃ w', w' = wr := ⟨wr, rfl⟩
        have HBw := hBr
        clear hBr
        go_wp2_with fail
        go_loopw [5, 17] (fun s i wr => ∃ j : Nat, s = .int .i64 (tS l j % (p : Int)) ∧ i = .int .i64 j ∧ j ≤ n ∧ Hid (Below w0.heap.size w0 wr)) (fun _ i _ => n - (intOf i).toNat)
        case atStart => exact ⟨0, by simp [tS], rfl, Nat.zero_le _, Lib.hid (Below.refl _ _)⟩
        case round =>
          obtain ⟨j, rfl, rfl, hj, hBr⟩ := hrel
          have hbS := mod_lt (a := tS l j) hp0 hp1
          obtain ⟨X, hX⟩ : ∃ X, X = tS l j % (p : Int) := ⟨_, rfl⟩
          rw [← hX] at hbS ⊢
          have HX := Lib.hid hX
          clear hX
          obtain ⟨hX0, hX1, _⟩ := hbS
          rcases Nat.lt_or_ge j n with hlt2 | hge2
          · obtain ⟨b, o, rfl, hbb, hcc⟩ := HL.out.addr (by omega)
            have hbd := HB.out j hlt2
            obtain ⟨B1, hB1⟩ : ∃ B, B = (gt l j).1 := ⟨_, rfl⟩
            obtain ⟨N1, hN1⟩ : ∃ B, B = (gt l j).2.1 := ⟨_, rfl⟩
            obtain ⟨D1, hD1⟩ : ∃ B, B = (gt l j).2.2 := ⟨_, rfl⟩
            have hww := HBw.out.trans (hBr.out.mono HBw.out.size)
            have c0 : wr.cell? ⟨b, o + j * 3, none⟩ = some (.int .i64 B1) := by rw [cellB hww _ _ hbb, hB1]; exact (hcc j hlt2).1
            have c1 : wr.cell? ⟨b, o + j * 3 + 1, none⟩ = some (.int .i64 N1) := by rw [cellB hww _ _ hbb, hN1]; exact (hcc j hlt2).2.1
            have c2 : wr.cell? ⟨b, o + j * 3 + 2, none⟩ = some (.int .i64 D1) := by rw [cellB hww _ _ hbb, hD1]; exact (hcc j hlt2).2.2
            rw [← hB1, ← hN1, ← hD1] at hbd
            have HCC := Lib.hid hcc
            have HWW := Lib.hid hww
            have hm1 := fun w' => modulo_any B1 p w' (h0 := by omega) (h1 := by omega) (hp := hp0) (hp2 := hp1)
            have hm2 := fun w' => modulo_any N1 p w' (h0 := by omega) (h1 := by omega) (hp := hp0) (hp2 := hp1)
            have q1 := mod_lt (a := B1) hp0 hp1
            have q2 := mod_lt (a := N1) hp0 hp1
            have q3 := mod_lt (a := B1 * N1) hp0 hp1
            have hpr := fun w' => product_any (B1 % (p : Int)).toNat (N1 % (p : Int)).toNat p q1.2.2 q2.2.2 hp0 hp1 w'
            rw [mod_mul3 B1 N1 p hp0, Int.toNat_of_nonneg q1.1, Int.toNat_of_nonneg q2.1] at hpr
            have HT0 := Lib.hid (show B1 * N1 % (p : Int) = tT l j 0 % (p : Int) by rw [hB1, hN1]; rfl)
            obtain ⟨y1, hy1⟩ : ∃ y, y = B1 % (p : Int) := ⟨_, rfl⟩
            obtain ⟨y2, hy2⟩ : ∃ y, y = N1 % (p : Int) := ⟨_, rfl⟩
            obtain ⟨y3, hy3⟩ : ∃ y, y = B1 * N1 % (p : Int) := ⟨_, rfl⟩
            rw [← hy1] at hm1 hpr
            rw [← hy2] at hm2 hpr
            rw [← hy3] at hpr HT0
            have HM1 := Lib.hid hm1
            have HM2 := Lib.hid hm2
            have HPR := Lib.hid hpr
            have i3 : (0 : Int) ≤ (j : Int) := by omega
            have i4 : (j : Int) < (n : Int) := by omega
            clear hB1 hN1 hD1 hm1 hm2 hpr hcc hww q1 q2 q3 hy1 hy2 hy3
            go_wp2_with fail
            generalize hW : wr.alloc _ = wa
            have hba : Below wr.heap.size wr wa := by rw [← hW]; (repeat' (first | (with_reducible exact Below.refl _ _) | (with_reducible assumption) | (with_reducible refine Below.drewN ?_ _) | (with_reducible refine Below.alloc ?_ ?_ _) | (with_reducible refine Below.drew ?_) | (with_reducible refine Below.setCell ?_ ?_ _) | (with_reducible refine Below.step (by assumption) ?_ ?_) | (with_reducible exact And.left (by assumption)) | go_size))
            have a0 : wa.cell? ⟨wr.heap.size, 0, none⟩ = some (.int .i64 B1) := by { rw [← hW]; clear hW; go_simp }
            have a1 : wa.cell? ⟨wr.heap.size, 1, none⟩ = some (.int .i64 N1) := by { rw [← hW]; clear hW; go_simp }
            have a2 : wa.cell? ⟨wr.heap.size, 2, none⟩ = some (.int .i64 D1) := by { rw [← hW]; clear hW; go_simp }
            have HBa := Lib.hid (hBr.out.trans (hba.mono hBr.out.size))
            clear hW c0 c1 c2 hba
            generalize wr.heap.size = X7 at *
            refine drew_of_eq 10 (by kernel_rfl) (by kernel_rfl) ?_; simp only [List.take_succ_cons, List.take_zero, List.drop_succ_cons, List.drop_zero]; repeat go_big_quiet_step (first | (go_at_call_of 130 B1; exact calls_drew_same (HM1.out _)) | (go_at_call_of 130 N1; exact calls_drew_same (HM2.out _)))
            refine wpQuiet_nil ?_; intro m1
            go_wp2_with fail
            refine (HPR.out _).mono ?_
            rintro e5 w5 ⟨rfl, m2, rfl⟩
            have HBb := Lib.hid ((HBa.out.drewN m1).drewN m2)
            clear HBa
            generalize (wa.drewN m1).drewN m2 = wb at *
            clear a0 a1 a2
            go_wp2_with fail
            go_loopw [8, 35] (fun v i wr => ∃ m : Nat, v = .int .i64 (tT l j m % (p : Int)) ∧ i = .int .i64 m ∧ m ≤ n ∧ Hid (Below w0.heap.size w0 wr)) (fun _ i _ => n - (intOf i).toNat)
            case atStart => exact ⟨0, by rw [HT0.out], rfl, Nat.zero_le _, HBb⟩
            case round =>
              obtain ⟨m, rfl, rfl, hm, hBq⟩ := hrel
              have hbT := mod_lt (a := tT l j m) hp0 hp1
              obtain ⟨Y, hY⟩ : ∃ X, X = tT l j m % (p : Int) := ⟨_, rfl⟩
              have hww := HBw.out.trans (hBq.out.mono HBw.out.size)
              rcases Nat.lt_or_ge m n with hlt3 | hge3
              · have hbd := HB.out m hlt3
                obtain ⟨B2, hB2⟩ : ∃ B, B = (gt l m).1 := ⟨_, rfl⟩
                obtain ⟨N2, hN2⟩ : ∃ B, B = (gt l m).2.1 := ⟨_, rfl⟩
                obtain ⟨D2, hD2⟩ : ∃ B, B = (gt l m).2.2 := ⟨_, rfl⟩
                have c0 : wr.cell? ⟨b, o + m * 3, none⟩ = some (.int .i64 B2) := by rw [cellB hww _ _ hbb, hB2]; exact (HCC.out m hlt3).1
                have c1 : wr.cell? ⟨b, o + m * 3 + 1, none⟩ = some (.int .i64 N2) := by rw [cellB hww _ _ hbb, hN2]; exact (HCC.out m hlt3).2.1
                have c2 : wr.cell? ⟨b, o + m * 3 + 2, none⟩ = some (.int .i64 D2) := by rw [cellB hww _ _ hbb, hD2]; exact (HCC.out m hlt3).2.2
                rw [← hD2] at hbd
                have hpr := fun w' => product_any (tT l j m % (p : Int)).toNat D2.toNat p hbT.2.2 (by omega) hp0 hp1 w'
                rw [mod_mul2 (tT l j m) D2.toNat p hp0, Int.toNat_of_nonneg hbT.1, Int.toNat_of_nonneg (show 0 ≤ D2 by omega)] at hpr
                have hst : tT l j (m + 1) = if m = j then tT l j m else tT l j m * D2 := by rw [hD2]; rfl
                rw [← hY] at hpr ⊢
                have i5 : (0 : Int) ≤ (m : Int) := by omega
                have i6 : (m : Int) < (n : Int) := by omega
                by_cases hmj : m = j
                · have hmb : ((m : Int) != (j : Int)) = false := by simp; omega
                  rw [if_pos hmj] at hst
                  have HYN := Lib.hid (show Y = tT l j (m + 1) % (p : Int) by rw [hst, hY])
                  clear hB2 hN2 hD2 hpr hst hY hww hbT hmj
                  go_wp2_with fail
                  have HBn := Lib.hid (show Below w0.heap.size w0 (wr.alloc (Obj.cells #[.int .i64 B2, .int .i64 N2, .int .i64 D2] 158)) from (by have := hBq.out; have := hBq.out.size; (repeat' (first | (with_reducible exact Below.refl _ _) | (with_reducible assumption) | (with_reducible refine Below.drewN ?_ _) | (with_reducible refine Below.alloc ?_ ?_ _) | (with_reducible refine Below.drew ?_) | (with_reducible refine Below.setCell ?_ ?_ _) | (with_reducible refine Below.step (by assumption) ?_ ?_) | (with_reducible exact And.left (by assumption)) | go_size))))
                  go_roundw
                  case rel => exact ⟨m + 1, by rw [HYN.out], by go_num, by omega, HBn⟩
                  case measure => simp [intOf]; omega
                · have hmb : ((m : Int) != (j : Int)) = true := by simp; omega
                  rw [if_neg hmj] at hst
                  obtain ⟨Z, hZ2⟩ : ∃ X, X = tT l j m * D2 % (p : Int) := ⟨_, rfl⟩
                  have HZN := Lib.hid (show Z = tT l j (m + 1) % (p : Int) by rw [hst, hZ2])
                  rw [← hZ2] at hpr
                  have HPR2 := Lib.hid hpr
                  clear hB2 hN2 hD2 hpr hst hY hww hbT hmj hZ2
                  go_wp2_with fail
                  refine (HPR2.out _).mono ?_
                  rintro e6 w6 ⟨rfl, m3, rfl⟩
                  have HBn := Lib.hid (show Below w0.heap.size w0 ((wr.alloc (Obj.cells #[.int .i64 B2, .int .i64 N2, .int .i64 D2] 158)).drewN m3) from (by have := hBq.out; have := hBq.out.size; (repeat' (first | (with_reducible exact Below.refl _ _) | (with_reducible assumption) | (with_reducible refine Below.drewN ?_ _) | (with_reducible refine Below.alloc ?_ ?_ _) | (with_reducible refine Below.drew ?_) | (with_reducible refine Below.setCell ?_ ?_ _) | (with_reducible refine Below.step (by assumption) ?_ ?_) | (with_reducible exact And.left (by assumption)) | go_size))))
                  go_wp2_with fail
                  go_roundw
                  case rel => exact ⟨m + 1, by rw [HZN.out], by go_num, by omega, HBn⟩
                  case measure => simp [intOf]; omega
              · obtain rfl : n = m := by omega
                rw [← hY] at hbT ⊢
                obtain ⟨hY0, hY1, _⟩ := hbT
                obtain ⟨Z, hZ2⟩ : ∃ Z, Z = (X + Y) % (p : Int) := ⟨_, rfl⟩
                have hz1 : (X + Y).tmod (p : Int) = Z := by rw [hZ2, Int.tmod_eq_emod_of_nonneg (by omega)]
                have hz2 : (X + Y) % (p : Int) = Z := hZ2.symm
                have HZN := Lib.hid (show Z = tS l (j + 1) % (p : Int) by
                  show Z = (tS l j + tT l j l.length) % (p : Int)
                  rw [HLEN.out, hZ2, HX.out, hY, ← Int.add_emod])
                clear hZ2 hY hww
                go_wp2
                go_roundw
                case rel => exact ⟨j + 1, by rw [HZN.out], by go_num, by omega, hBq⟩
                case measure => simp [intOf]; omega
          · obtain rfl : n = j := by omega
            have HBn := Lib.hid (HBw.out.trans (hBr.out.mono HBw.out.size))
            by_cases hX2 : X = 0
            · have hb0 : (X != 0) = false := by simpa using hX2
              have HZ2 := Lib.hid (show zUpto l (k + 1) = true by
                rw [zUpto, hZ.out, HLEN.out, ← HPK.out, ← HX.out, hX2]; rfl)
              clear hX2
              go_wp2
              go_roundw
              case rel => exact ⟨k + 1, by go_num, by omega, HZ2, HBn⟩
              case measure => simp [intOf]; omega
            · have hb0 : (X != 0) = true := by simpa using hX2
              have HZ2 := Lib.hid (show zUpto l 4 = false by
                have h1 : zUpto l (k + 1) = false := by
                  rw [zUpto, HLEN.out, ← HPK.out, ← HX.out]; simp [hX2]
                have h2 := zUpto_false l (3 - k) (k + 1) h1
                rwa [show k + 1 + (3 - k) = 4 by omega] at h2)
              clear hX2
              go_wp2
              go_ret
              exact ⟨ret_bool (by rw [HZ2.out]), HBn.out⟩
    · obtain rfl : k = 4 := by omega
      go_wp2
      go_ret
      exact ⟨ret_bool (by rw [hZ.out]), hBr.out⟩
end Go.Proofs.YtbjgklifmillgaaGreat

/- Whether a node has its voltage, or its equation. -/
namespace Go.Proofs.YtbjgklifmillgaaGreat
open Go.RowKit
set_option linter.unusedVariables false

theorem infoTerm : (Tryz.prog.info? 158).map (fun i => (i.zero, i.size, i.bytes)) = some (some (.agg #[.int .i64 0, .int .i64 0, .int .i64 0]), 3, 24) := by kernel_rfl
abbrev g0' (l : List Int) (i : Nat) : Int := l.getD i 0
/-- The terms of a node's equation. -/
def tms (s e : List Int) (u : List (Int × Int)) (n j : Nat) : List (Int × Int × Int) :=
  [(ownOf s e (j - 1), gp u j), (-(g0' s (j - 1)), gp u (j - 1))] ++ if j < n then [(-(g0' s j), gp u (j + 1))] else []
def hold (s e : List Int) (u : List (Int × Int)) (g : Bool) (n j : Nat) : Bool :=
  if j = 0 then ((gp u 0).1 == 1 && (gp u 0).2 == 1) else if lastOf n g < j then ((gp u j).1 == 0 && (gp u j).2 == 1) else zUpto (tms s e u n j) 4
set_option maxRecDepth 100000 in
theorem holds_zero (s e : List Int) (u : List (Int × Int)) (a a1 a2 : Option Addr) (n c n1 c1 m c2 : Nat) (g : Bool) (w : World) (hu : PairsR w a2 m u) (hm : 0 < m) :
    Calls Tryz.prog 55 #[.agg #[.slice a n c, .slice a1 n1 c1, .bool g], .slice a2 m c2, .int .i64 0] w fun e' w' => e' = .returned (.bool (hold s e u g n 0)) ∧ Below w.heap.size w w' := by
  obtain ⟨b, o, rfl, hb, hc⟩ := hu.addr hm
  have c0 := (hc 0 hm).1
  have c1' := (hc 0 hm).2
  have hms := hu.small
  obtain ⟨P, hP⟩ : ∃ P, P = (gp u 0).1 := ⟨_, rfl⟩
  obtain ⟨Q, hQ⟩ : ∃ P, P = (gp u 0).2 := ⟨_, rfl⟩
  have hh : hold s e u g n 0 = (P == 1 && Q == 1) := by unfold hold; rw [if_pos rfl, hP, hQ]
  rw [hh]
  change _ = some (Value.int .i64 (gp u 0).1) at c0
  change _ = some (Value.int .i64 (gp u 0).2) at c1'
  rw [← hP] at c0
  rw [← hQ] at c1'
  simp only [Nat.zero_mul, Nat.add_zero] at c0 c1'
  have i0 : (0 : Int) < (m : Int) := by omega
  clear hc hu hP hQ hh
  by_cases h1 : P = 1
  · have hb1 : (P == 1) = true := by simpa using h1
    clear h1
    rw [hb1, Bool.true_and]
    by_cases h2 : Q = 1
    · have hb2 : (Q == 1) = true := by simpa using h2
      clear h2
      rw [hb2]
      go_enter Tryz.func55, Tryz.ntmps55
      go_wp2
      go_ret
      exact ⟨rfl, by (repeat' (first | (with_reducible exact Below.refl _ _) | (with_reducible assumption) | (with_reducible refine Below.drewN ?_ _) | (with_reducible refine Below.alloc ?_ ?_ _) | (with_reducible refine Below.drew ?_) | (with_reducible refine Below.setCell ?_ ?_ _) | (with_reducible refine Below.step (by assumption) ?_ ?_) | (with_reducible exact And.left (by assumption)) | go_size))⟩
    · have hb2 : (Q == 1) = false := by simpa using h2
      clear h2
      rw [hb2]
      go_enter Tryz.func55, Tryz.ntmps55
      go_wp2
      go_ret
      exact ⟨rfl, by (repeat' (first | (with_reducible exact Below.refl _ _) | (with_reducible assumption) | (with_reducible refine Below.drewN ?_ _) | (with_reducible refine Below.alloc ?_ ?_ _) | (with_reducible refine Below.drew ?_) | (with_reducible refine Below.setCell ?_ ?_ _) | (with_reducible refine Below.step (by assumption) ?_ ?_) | (with_reducible exact And.left (by assumption)) | go_size))⟩
  · have hb1 : (P == 1) = false := by simpa using h1
    clear h1
    rw [hb1, Bool.false_and]
    go_enter Tryz.func55, Tryz.ntmps55
    go_wp2
    go_ret
    exact ⟨rfl, by (repeat' (first | (with_reducible exact Below.refl _ _) | (with_reducible assumption) | (with_reducible refine Below.drewN ?_ _) | (with_reducible refine Below.alloc ?_ ?_ _) | (with_reducible refine Below.drew ?_) | (with_reducible refine Below.setCell ?_ ?_ _) | (with_reducible refine Below.step (by assumption) ?_ ?_) | (with_reducible exact And.left (by assumption)) | go_size))⟩
set_option maxHeartbeats 2000000 in
set_option maxRecDepth 100000 in
theorem holds_pos (s e : List Int) (u : List (Int × Int)) (a a1 a2 : Option Addr) (n c c1 m c2 k : Nat) (g : Bool) (w : World) (hs : IntsR w a n s) (he : IntsR w a1 n e) (hu : PairsR w a2 m u) (hm : m = n + 1) (hk : k < n) (hn : n ≤ 6)
    (bs : ∀ x ∈ s, 1 ≤ x ∧ x ≤ 100) (be : ∀ x ∈ e, 0 ≤ x ∧ x ≤ 100) (bu : ∀ i, i < m → -1000000000 ≤ (gp u i).1 ∧ (gp u i).1 ≤ 1000000000 ∧ 1 ≤ (gp u i).2 ∧ (gp u i).2 ≤ 1000000000) :
    Calls Tryz.prog 55 #[.agg #[.slice a n c, .slice a1 n c1, .bool g], .slice a2 m c2, .int .i64 ((k : Int) + 1)] w fun e' w' => e' = .returned (.bool (hold s e u g n (k + 1))) ∧ Below w.heap.size w w' := by
  subst hm
  obtain ⟨b, o, rfl, hb, hc⟩ := hu.addr (by omega)
  obtain ⟨b1, o1, rfl, hb1, hc1⟩ := hs.addr (by omega)
  obtain ⟨P, hP⟩ : ∃ P, P = (gp u (k + 1)).1 := ⟨_, rfl⟩
  obtain ⟨Q, hQ⟩ : ∃ P, P = (gp u (k + 1)).2 := ⟨_, rfl⟩
  have cP : w.cell? ⟨b, o + (k + 1) * 2, none⟩ = some (.int .i64 P) := by rw [hP]; exact (hc (k + 1) (by omega)).1
  have cQ : w.cell? ⟨b, o + (k + 1) * 2 + 1, none⟩ = some (.int .i64 Q) := by rw [hQ]; exact (hc (k + 1) (by omega)).2
  have HCL := Lib.hid (fun w' => clast_any (some ⟨b1, o1, none⟩) a1 n c n c1 g w' (by omega))
  have HOW := Lib.hid (fun (w' : World) (hb' : Below w.heap.size w w') => own_any s e (some ⟨b1, o1, none⟩) a1 n c n c1 k g w' (hs.below hb') (he.below hb') rfl (by omega) hk (fun x hx => by have := bs x hx; omega) (fun x hx => by have := be x hx; omega))
  have hob := own_bd s e k (fun x hx => by have := bs x hx; omega) be
  have hsl := hs.len
  obtain ⟨L, hL⟩ : ∃ L, L = lastOf n g := ⟨_, rfl⟩
  rw [← hL] at HCL
  have HL := Lib.hid hL
  have j0 : (0 : Int) ≤ (k : Int) := by omega
  have j1 : ((k : Int) + 1 == 0) = false := by simp; omega
  have j2 : (k : Int) + 1 < (n : Int) + 1 := by omega
  have j3 : (k : Int) < (n : Int) := by omega
  have j4 : (k : Int) < (n : Int) + 1 := by omega
  by_cases hlast : L < (k : Int) + 1
  · have hh : hold s e u g n (k + 1) = (P == 0 && Q == 1) := by unfold hold; rw [if_neg (by omega), if_pos (by rw [← HL.out]; simpa using hlast), hP, hQ]
    rw [hh]
    have hlb : decide ((k : Int) + 1 > L) = true := by simpa using hlast
    clear hh hP hQ hc hc1 hs he hu bs be bu hL HL hlast hob hsl HOW
    have hz : ∀ x y : Bool, (P == 0) = x → (Q == 1) = y → Calls Tryz.prog 55 #[.agg #[.slice (some ⟨b1, o1, none⟩) n c, .slice a1 n c1, .bool g], .slice (some ⟨b, o, none⟩) (n + 1) c2, .int .i64 ((k : Int) + 1)] w fun e' w' => e' = .returned (.bool (x && y)) ∧ Below w.heap.size w w' := by
      intro x y hx hy
      go_enter Tryz.func55, Tryz.ntmps55
      go_wp2_with fail
      refine (HCL.out _).mono ?_
      rintro e5 w5 ⟨rfl, hb5⟩
      have hz5 := hb5.size
      simp only [World.size_alloc] at hz5
      have hb5' : Below w.heap.size w w5 := by (repeat' (first | (with_reducible exact Below.refl _ _) | (with_reducible assumption) | (with_reducible refine Below.drewN ?_ _) | (with_reducible refine Below.alloc ?_ ?_ _) | (with_reducible refine Below.drew ?_) | (with_reducible refine Below.setCell ?_ ?_ _) | (with_reducible refine Below.step (by assumption) ?_ ?_) | (with_reducible exact And.left (by assumption)) | go_size))
      have cP' : w5.cell? ⟨b, o + (k + 1) * 2, none⟩ = some (.int .i64 P) := by rw [cellB hb5' _ _ hb]; exact cP
      have cQ' : w5.cell? ⟨b, o + (k + 1) * 2 + 1, none⟩ = some (.int .i64 Q) := by rw [cellB hb5' _ _ hb]; exact cQ
      have HB5 := Lib.hid hb5'
      clear hb5 hb5' cP cQ
      cases x <;> cases y
      all_goals
        go_wp2
        go_ret
        exact ⟨rfl, HB5.out⟩
    exact hz _ _ rfl rfl
  · have hh : hold s e u g n (k + 1) = zUpto (tms s e u n (k + 1)) 4 := by unfold hold; rw [if_neg (by omega), if_neg (by rw [← HL.out]; simpa using hlast)]
    rw [hh]
    have hlb : decide ((k : Int) + 1 > L) = false := by simpa using hlast
    obtain ⟨P0, hP0⟩ : ∃ P, P = (gp u k).1 := ⟨_, rfl⟩
    obtain ⟨Q0, hQ0⟩ : ∃ P, P = (gp u k).2 := ⟨_, rfl⟩
    obtain ⟨S0, hS0⟩ : ∃ P, P = g0' s k := ⟨_, rfl⟩
    obtain ⟨O, hO⟩ : ∃ P, P = ownOf s e k := ⟨_, rfl⟩
    have cP0 : w.cell? ⟨b, o + k * 2, none⟩ = some (.int .i64 P0) := by rw [hP0]; exact (hc k (by omega)).1
    have cQ0 : w.cell? ⟨b, o + k * 2 + 1, none⟩ = some (.int .i64 Q0) := by rw [hQ0]; exact (hc k (by omega)).2
    have cS0 : w.cell? ⟨b1, o1 + k, none⟩ = some (.int .i64 S0) := by rw [hS0]; exact hc1 k hk
    have bS0 := bs _ (getD_mem (show k < s.length by omega))
    change 1 ≤ g0' s k ∧ g0' s k ≤ 100 at bS0
    rw [← hS0] at bS0
    have bP := bu (k + 1) (by omega)
    rw [← hP, ← hQ] at bP
    have bP0 := bu k (by omega)
    rw [← hP0, ← hQ0] at bP0
    rw [← hO] at HOW hob
    have HC := Lib.hid hc
    have HC1 := Lib.hid hc1
    have HBU := Lib.hid bu
    have HBS := Lib.hid bs
    have HT := Lib.hid (show tms s e u n (k + 1) = [(O, P, Q), (-S0, P0, Q0)] ++ (if k + 1 < n then [(-(g0' s (k + 1)), gp u (k + 1 + 1))] else []) by
      unfold tms; rw [Nat.add_sub_cancel, ← hO, ← hS0, hP, hQ, hP0, hQ0])
    clear hh hP hQ hP0 hQ0 hS0 hO hc hc1 hs he hu bs be bu hL HL hlast
    go_enter Tryz.func55, Tryz.ntmps55
    go_wp2_with fail
    refine (HCL.out _).mono ?_
    rintro e5 w5 ⟨rfl, hb5⟩
    have hz5 := hb5.size
    simp only [World.size_alloc] at hz5
    have hb5' : Below w.heap.size w w5 := by (repeat' (first | (with_reducible exact Below.refl _ _) | (with_reducible assumption) | (with_reducible refine Below.drewN ?_ _) | (with_reducible refine Below.alloc ?_ ?_ _) | (with_reducible refine Below.drew ?_) | (with_reducible refine Below.setCell ?_ ?_ _) | (with_reducible refine Below.step (by assumption) ?_ ?_) | (with_reducible exact And.left (by assumption)) | go_size))
    have q0 : w5.cell? ⟨w.heap.size, 0, none⟩ = some (.slice (some ⟨b1, o1, none⟩) n c) := by { rw [cellB hb5 _ _ (by first | (simp; done) | (simp; omega) | omega)]; all_goals (first | assumption | go_simp) }; have q1 : w5.cell? ⟨w.heap.size, 1, none⟩ = some (.slice a1 n c1) := by { rw [cellB hb5 _ _ (by first | (simp; done) | (simp; omega) | omega)]; all_goals (first | assumption | go_simp) }; have q2 : w5.cell? ⟨w.heap.size, 2, none⟩ = some (.bool g) := by { rw [cellB hb5 _ _ (by first | (simp; done) | (simp; omega) | omega)]; all_goals (first | assumption | go_simp) }; have l0 : w.heap.size < w5.heap.size := by { omega }
    have cP' : w5.cell? ⟨b, o + (k + 1) * 2, none⟩ = some (.int .i64 P) := by { rw [cellB hb5' _ _ (by first | (simp; done) | (simp; omega) | omega)]; all_goals (first | assumption | go_simp) }; have cQ' : w5.cell? ⟨b, o + (k + 1) * 2 + 1, none⟩ = some (.int .i64 Q) := by { rw [cellB hb5' _ _ (by first | (simp; done) | (simp; omega) | omega)]; all_goals (first | assumption | go_simp) }; have cP0' : w5.cell? ⟨b, o + k * 2, none⟩ = some (.int .i64 P0) := by { rw [cellB hb5' _ _ (by first | (simp; done) | (simp; omega) | omega)]; all_goals (first | assumption | go_simp) }; have cQ0' : w5.cell? ⟨b, o + k * 2 + 1, none⟩ = some (.int .i64 Q0) := by { rw [cellB hb5' _ _ (by first | (simp; done) | (simp; omega) | omega)]; all_goals (first | assumption | go_simp) }; have cS0' : w5.cell? ⟨b1, o1 + k, none⟩ = some (.int .i64 S0) := by { rw [cellB hb5' _ _ (by first | (simp; done) | (simp; omega) | omega)]; all_goals (first | assumption | go_simp) }
    have HB5 := Lib.hid hb5'
    clear hb5 hb5' cP cQ cP0 cQ0 cS0
    go_wp2_with fail
    refine later_of_eq 21 (by kernel_rfl) (by kernel_rfl) ?_; simp only [List.take_succ_cons, List.take_zero, List.drop_succ_cons, List.drop_zero]; repeat go_big_quiet_step (exact calls_later (HOW.out _ (HB5.out.trans (Below.mono (Later.below _) (HB5.out.size)))))
    refine wpQuiet_nil ?_; intro w6 hb6
    have hz6 := hb6.size
    have q0' : w6.cell? ⟨w.heap.size, 0, none⟩ = some (.slice (some ⟨b1, o1, none⟩) n c) := by { rw [cellB hb6 _ _ (by first | (simp; done) | (simp; omega) | omega)]; all_goals (first | assumption | go_simp) }; have q1' : w6.cell? ⟨w.heap.size, 1, none⟩ = some (.slice a1 n c1) := by { rw [cellB hb6 _ _ (by first | (simp; done) | (simp; omega) | omega)]; all_goals (first | assumption | go_simp) }; have q2' : w6.cell? ⟨w.heap.size, 2, none⟩ = some (.bool g) := by { rw [cellB hb6 _ _ (by first | (simp; done) | (simp; omega) | omega)]; all_goals (first | assumption | go_simp) }; have l0' : w.heap.size < w6.heap.size := by { omega }
    have HB6 := Lib.hid (HB5.out.trans (hb6.mono HB5.out.size))
    clear hb6 q0 q1 q2 l0 cP' cQ' cP0' cQ0' cS0' HB5
    have hlit : (w6.alloc (Obj.cells #[.int .i64 O, .int .i64 P, .int .i64 Q, .int .i64 (-S0), .int .i64 P0, .int .i64 Q0] 158)).ownsRow w6.heap.size 158 3 (.slice (some ⟨w6.heap.size, 0, none⟩) 2 2) 2 (tcells [(O, P, Q), (-S0, P0, Q0)]) :=
      owns_lit (cs := #[.int .i64 O, .int .i64 P, .int .i64 Q, .int .i64 (-S0), .int .i64 P0, .int .i64 Q0]) rfl (Nat.le_refl _) (by omega) rfl
    have hb7 : Below w6.heap.size w6 (w6.alloc (Obj.cells #[.int .i64 O, .int .i64 P, .int .i64 Q, .int .i64 (-S0), .int .i64 P0, .int .i64 Q0] 158)) := by (repeat' (first | (with_reducible exact Below.refl _ _) | (with_reducible assumption) | (with_reducible refine Below.drewN ?_ _) | (with_reducible refine Below.alloc ?_ ?_ _) | (with_reducible refine Below.drew ?_) | (with_reducible refine Below.setCell ?_ ?_ _) | (with_reducible refine Below.step (by assumption) ?_ ?_) | (with_reducible exact And.left (by assumption)) | go_size))
    have HLIT := Lib.hid (And.intro hlit hb7)
    clear hlit hb7
    by_cases hk1 : k + 1 < n
    · have i5 : (k : Int) + 1 < (n : Int) := by omega
      have HT2 := HT.out
      rw [if_pos hk1] at HT2
      obtain ⟨P2, hP2⟩ : ∃ P, P = (gp u (k + 1 + 1)).1 := ⟨_, rfl⟩
      obtain ⟨Q2, hQ2⟩ : ∃ P, P = (gp u (k + 1 + 1)).2 := ⟨_, rfl⟩
      obtain ⟨S1, hS1⟩ : ∃ P, P = g0' s (k + 1) := ⟨_, rfl⟩
      have bS1 := HBS.out _ (getD_mem (show k + 1 < s.length by omega))
      change 1 ≤ g0' s (k + 1) ∧ g0' s (k + 1) ≤ 100 at bS1
      rw [← hS1] at bS1
      have bP2 := HBU.out (k + 1 + 1) (by omega)
      rw [← hP2, ← hQ2] at bP2
      have HT2 := Lib.hid (show tms s e u n (k + 1) = [(O, P, Q), (-S0, P0, Q0), (-S1, P2, Q2)] by rw [HT2, hS1, hP2, hQ2]; rfl)
      have hbd : ∀ i, i < 3 → -1000000000000 ≤ (gt [(O, P, Q), (-S0, P0, Q0), (-S1, P2, Q2)] i).1 ∧ (gt [(O, P, Q), (-S0, P0, Q0), (-S1, P2, Q2)] i).1 ≤ 1000000000000 ∧ -1000000000000 ≤ (gt [(O, P, Q), (-S0, P0, Q0), (-S1, P2, Q2)] i).2.1 ∧ (gt [(O, P, Q), (-S0, P0, Q0), (-S1, P2, Q2)] i).2.1 ≤ 1000000000000 ∧ 0 ≤ (gt [(O, P, Q), (-S0, P0, Q0), (-S1, P2, Q2)] i).2.2 ∧ (gt [(O, P, Q), (-S0, P0, Q0), (-S1, P2, Q2)] i).2.2 < 4294967296 := by
        intro i hi
        rcases i with _ | _ | _ | i
        · show _ ≤ O ∧ O ≤ _ ∧ _ ≤ P ∧ P ≤ _ ∧ _ ≤ Q ∧ Q < _
          omega
        · show _ ≤ -S0 ∧ -S0 ≤ _ ∧ _ ≤ P0 ∧ P0 ≤ _ ∧ _ ≤ Q0 ∧ Q0 < _
          omega
        · show _ ≤ -S1 ∧ -S1 ≤ _ ∧ _ ≤ P2 ∧ P2 ≤ _ ∧ _ ≤ Q2 ∧ Q2 < _
          omega
        · omega
      have HBD := Lib.hid hbd
      clear hbd
      go_wp2_with fail
      generalize hW : w6.alloc _ = w7 at *
      have hb7 := HLIT.out.2
      have hz7 := hb7.size
      have hb7' := HB6.out.trans (hb7.mono HB6.out.size)
      have q0 : w7.cell? ⟨w.heap.size, 0, none⟩ = some (.slice (some ⟨b1, o1, none⟩) n c) := by { rw [cellB hb7 _ _ (by first | (simp; done) | (simp; omega) | omega)]; all_goals (first | assumption | go_simp) }; have q1 : w7.cell? ⟨w.heap.size, 1, none⟩ = some (.slice a1 n c1) := by { rw [cellB hb7 _ _ (by first | (simp; done) | (simp; omega) | omega)]; all_goals (first | assumption | go_simp) }; have q2 : w7.cell? ⟨w.heap.size, 2, none⟩ = some (.bool g) := by { rw [cellB hb7 _ _ (by first | (simp; done) | (simp; omega) | omega)]; all_goals (first | assumption | go_simp) }; have l0 : w.heap.size < w7.heap.size := by { omega }
      have cP2 : w7.cell? ⟨b, o + (k + 1 + 1) * 2, none⟩ = some (.int .i64 P2) := by rw [cellB hb7' _ _ hb, hP2]; exact (HC.out (k + 1 + 1) (by omega)).1
      have cQ2 : w7.cell? ⟨b, o + (k + 1 + 1) * 2 + 1, none⟩ = some (.int .i64 Q2) := by rw [cellB hb7' _ _ hb, hQ2]; exact (HC.out (k + 1 + 1) (by omega)).2
      have cS1 : w7.cell? ⟨b1, o1 + (k + 1), none⟩ = some (.int .i64 S1) := by rw [cellB hb7' _ _ hb1, hS1]; exact HC1.out (k + 1) hk1
      have HB7 := Lib.hid hb7'
      have hlo : w6.heap.size ≤ w7.heap.size := by omega
      have j6 : (0 : Int) ≤ (k : Int) + 1 := by omega
      have j7 : (k : Int) + 1 + 1 < (n : Int) + 1 := by omega
      clear hW hb7 hb7' q0' q1' q2' l0' hP2 hQ2 hS1
      have hzw := HB6.out.size
      have jj0 : w.heap.size < w6.heap.size := by omega
      have jj1 : b < w6.heap.size := by omega
      have jj2 : b1 < w6.heap.size := by omega
      refine wp_region_laterB (B := w6.heap.size) [0, 1, 2, 3, 4, 5, 6, 7, 8, 9, 10, 11, 12] [13, 14, 15] (by kernel_rfl) (by kernel_rfl) ?_; simp only [List.filterMap_cons, List.filterMap_nil, List.getElem?_cons_zero, List.getElem?_cons_succ]; repeat (show wpQuiet _ _ _ _ (_ :: _) _; go_big_quiet_step (fail))
      refine wpQuiet_nil ?_
      refine wpTail_cons ?_
      go_wp2_with fail
      have HNb := Lib.hid (show Below w6.heap.size w7 (w7.alloc (Obj.cells #[.int .i64 (-S1), .int .i64 P2, .int .i64 Q2] 158)).drew by (repeat' (first | (with_reducible exact Below.refl _ _) | (with_reducible assumption) | (with_reducible refine Below.drewN ?_ _) | (with_reducible refine Below.alloc ?_ ?_ _) | (with_reducible refine Below.drew ?_) | (with_reducible refine Below.setCell ?_ ?_ _) | (with_reducible refine Below.step (by assumption) ?_ ?_) | (with_reducible exact And.left (by assumption)) | go_size)))
      refine tailL_mk HNb.out ?_
      refine wpTail_cons ?_
      go_wp2_with (at_builtin; refine wpList_append_sl _ rfl _ _ 159 rfl w6.heap.size 158 _ 3 24 Tryz.underlying159 infoTerm rfl (by omega) (.slice (some ⟨w6.heap.size, 0, none⟩) 2 2) 2 _ rfl ((HLIT.out.1.alloc _).drew) _ 1 1 [.int .i64 (-S1), .int .i64 P2, .int .i64 Q2] rfl (SlR.lit _ _ _ _ _ 1 3 (by rfl) (by simp) rfl (by omega)) (by simp [Value.oneCell']) (by omega) (by omega) (by simp; omega) ?_)
      intro v2 wz hownz _ hbz
      obtain ⟨av2, cv2, rfl, _, _⟩ := owns_slice hownz
      have hbz' : Below w6.heap.size w7 wz := HNb.out.trans hbz
      have HBY := Lib.hid hbz'
      have HBZ := Lib.hid (HB7.out.trans (hbz'.mono (by have := HB6.out.size; omega)))
      have HO := Lib.hid (show TermsR wz av2 3 [(O, P, Q), (-S0, P0, Q0), (-S1, P2, Q2)] from SlR.of_owns hownz)
      clear hownz hbz hbz' q0 q1 q2 l0 cP2 cQ2 cS1
      go_wp2_with fail
      refine tailL_mk HBY.out ?_
      refine wpTail_cons ?_
      go_wp2_with fail
      refine tailL_mk HBY.out ?_
      refine wpTail_nil ?_
      go_wp2_with fail
      refine (isZero_any _ _ 3 cv2 wz HO.out (by omega) HBD.out).mono ?_
      rintro e8 w8 ⟨rfl, hb8⟩
      have HB8 := Lib.hid (HBZ.out.trans (hb8.mono HBZ.out.size))
      clear hb8
      go_wp2
      go_ret
      exact ⟨ret_bool (by rw [HT2.out]), HB8.out⟩
    · have i5 : ¬ ((k : Int) + 1 < (n : Int)) := by omega
      have HT2 := HT.out
      rw [if_neg hk1, List.append_nil] at HT2
      have HT2 := Lib.hid HT2
      have hbd : ∀ i, i < 2 → -1000000000000 ≤ (gt [(O, P, Q), (-S0, P0, Q0)] i).1 ∧ (gt [(O, P, Q), (-S0, P0, Q0)] i).1 ≤ 1000000000000 ∧ -1000000000000 ≤ (gt [(O, P, Q), (-S0, P0, Q0)] i).2.1 ∧ (gt [(O, P, Q), (-S0, P0, Q0)] i).2.1 ≤ 1000000000000 ∧ 0 ≤ (gt [(O, P, Q), (-S0, P0, Q0)] i).2.2 ∧ (gt [(O, P, Q), (-S0, P0, Q0)] i).2.2 < 4294967296 := by
        intro i hi
        rcases i with _ | _ | i
        · show _ ≤ O ∧ O ≤ _ ∧ _ ≤ P ∧ P ≤ _ ∧ _ ≤ Q ∧ Q < _
          omega
        · show _ ≤ -S0 ∧ -S0 ≤ _ ∧ _ ≤ P0 ∧ P0 ≤ _ ∧ _ ≤ Q0 ∧ Q0 < _
          omega
        · omega
      have HBD := Lib.hid hbd
      clear hbd
      go_wp2_with fail
      generalize w6.alloc _ = w7 at *
      have hb7 := HLIT.out.2
      have hz7 := hb7.size
      have HB7 := Lib.hid (HB6.out.trans (hb7.mono HB6.out.size))
      clear hb7
      go_wp2_with fail
      refine (isZero_any _ _ 2 2 w7 (SlR.of_owns HLIT.out.1) (by omega) HBD.out).mono ?_
      rintro e8 w8 ⟨rfl, hb8⟩
      have HB8 := Lib.hid (HB7.out.trans (hb8.mono HB7.out.size))
      clear hb8
      go_wp2
      go_ret
      exact ⟨ret_bool (by rw [HT2.out]), HB8.out⟩
end Go.Proofs.YtbjgklifmillgaaGreat
