/- Whether terms add up to 0, modulo four numbers. -/
import Derived.Test.YtiellefbndlkkaaMod4
import Derived.Test.YtiellefbndlkkaaPlainFrac
import Derived.Test.YtiellefbndlkkaaQTail
import Derived.Deep.CutRange
namespace Go.Proofs.Ytiellefbndlkkaa
open Go.RowKit
set_option linter.unusedVariables false

/-- Terms as cells: a number, a fraction. -/
def tcells (l : List (Int × Int × Int)) : List Value := l.flatMap fun f => [.int .i64 f.1, .int .i64 f.2.1, .int .i64 f.2.2]
abbrev gt (l : List (Int × Int × Int)) (i : Nat) : Int × Int × Int := l.getD i (0, 0, 0)
theorem tcells_length : ∀ l : List (Int × Int × Int), (tcells l).length = l.length * 3
  | [] => rfl
  | f :: r => by have := tcells_length r; simp only [tcells, List.flatMap_cons, List.length_append, List.length_cons, List.length_nil] at *; omega
theorem tcells_get : ∀ (l : List (Int × Int × Int)) (i : Nat), i < l.length → (tcells l)[i * 3]? = some (.int .i64 (gt l i).1) ∧ (tcells l)[i * 3 + 1]? = some (.int .i64 (gt l i).2.1) ∧ (tcells l)[i * 3 + 2]? = some (.int .i64 (gt l i).2.2)
  | [], i, h => by simp at h
  | f :: r, 0, _ => by simp [tcells]
  | f :: r, i + 1, h => by
    have := tcells_get r i (by simpa using h)
    simp only [tcells, List.flatMap_cons, List.cons_append, List.nil_append] at *
    rw [show (i + 1) * 3 = i * 3 + 1 + 1 + 1 by omega]
    simpa using this
def TermsR (w : World) (a : Option Addr) (n : Nat) (l : List (Int × Int × Int)) : Prop := SlR w a n 3 (tcells l)
theorem TermsR.len {w : World} {a : Option Addr} {n : Nat} {l : List (Int × Int × Int)} (h : TermsR w a n l) : l.length = n := by
  have := h.1; rw [tcells_length] at this; omega
theorem TermsR.below {w w' : World} {a : Option Addr} {n : Nat} {l : List (Int × Int × Int)} (h : TermsR w a n l) (hb : Below w.heap.size w w') : TermsR w' a n l := SlR.below h hb
theorem TermsR.addr {w : World} {a : Option Addr} {n : Nat} {l : List (Int × Int × Int)} (h : TermsR w a n l) (hn : 0 < n) :
    ∃ b o, a = some ⟨b, o, none⟩ ∧ b < w.heap.size ∧ ∀ i, i < n → w.cell? ⟨b, o + i * 3, none⟩ = some (.int .i64 (gt l i).1) ∧ w.cell? ⟨b, o + i * 3 + 1, none⟩ = some (.int .i64 (gt l i).2.1) ∧ w.cell? ⟨b, o + i * 3 + 2, none⟩ = some (.int .i64 (gt l i).2.2) := by
  obtain ⟨b, o, ha, hlt, hc⟩ := h.2.2 hn
  refine ⟨b, o, ha, hlt, fun i hi => ?_⟩
  have := tcells_get l i (by rw [h.len]; exact hi)
  exact ⟨hc _ _ this.1, by have := hc _ _ this.2.1; rwa [← Nat.add_assoc] at this, by have := hc _ _ this.2.2; rwa [← Nat.add_assoc] at this⟩

/-- A term times the other denominators up to one. -/
def tT (l : List (Int × Int × Int)) (i : Nat) : Nat → Int
  | 0 => (gt l i).1 * (gt l i).2.1
  | m + 1 => if m = i then tT l i m else tT l i m * (gt l m).2.2
/-- The sum of the first terms. -/
def tS (l : List (Int × Int × Int)) : Nat → Int
  | 0 => 0
  | i + 1 => tS l i + tT l i l.length
def pm (k : Nat) : Nat := [4294967291, 4294967279, 4294967231, 4294967197].getD k 1
theorem pm_pos (k : Nat) : 0 < pm k ∧ pm k ≤ 4294967296 := by
  rcases k with _ | _ | _ | _ | k <;> simp [pm]
def zUpto (l : List (Int × Int × Int)) : Nat → Bool
  | 0 => true
  | k + 1 => zUpto l k && decide (tS l l.length % (pm k : Int) = 0)
theorem zUpto_false (l : List (Int × Int × Int)) : ∀ (m k : Nat), zUpto l k = false → zUpto l (k + m) = false
  | 0, k, h => h
  | m + 1, k, h => by
    rw [show k + (m + 1) = (k + m) + 1 by omega, zUpto, zUpto_false l m k h]; rfl

theorem mod_mul3 (a b : Int) (p : Nat) (hp : 0 < p) : (((a % (p : Int)).toNat * (b % (p : Int)).toNat % p : Nat) : Int) = (a * b) % (p : Int) := by
  have h1 := Int.emod_nonneg a (show (p : Int) ≠ 0 by omega)
  have h2 := Int.emod_nonneg b (show (p : Int) ≠ 0 by omega)
  rw [Int.natCast_emod, Int.natCast_mul, Int.toNat_of_nonneg h1, Int.toNat_of_nonneg h2, ← Int.mul_emod]
theorem mod_mul2 (a : Int) (d p : Nat) (hp : 0 < p) : (((a % (p : Int)).toNat * d % p : Nat) : Int) = (a * (d : Int)) % (p : Int) := by
  have h1 := Int.emod_nonneg a (show (p : Int) ≠ 0 by omega)
  rw [Int.natCast_emod, Int.natCast_mul, Int.toNat_of_nonneg h1, Int.mul_emod, Int.emod_emod, ← Int.mul_emod]
theorem mod_lt {a : Int} {p : Nat} (h0 : 0 < p) (hp : p ≤ 4294967296) : 0 ≤ a % (p : Int) ∧ a % (p : Int) < p ∧ (a % (p : Int)).toNat < 4294967296 := by
  have h1 := Int.emod_nonneg a (show (p : Int) ≠ 0 by omega)
  have h2 := Int.emod_lt_of_pos a (show (0 : Int) < (p : Int) by omega)
  refine ⟨h1, h2, by omega⟩
set_option maxHeartbeats 4000000 in
set_option maxRecDepth 100000 in
theorem isZero_any (l : List (Int × Int × Int)) (a : Option Addr) (n c : Nat) (w : World) (hl : TermsR w a n l) (hn : n ≤ 100) (hb : ∀ i, i < n → -1000000000000 ≤ (gt l i).1 ∧ (gt l i).1 ≤ 1000000000000 ∧ -1000000000000 ≤ (gt l i).2.1 ∧ (gt l i).2.1 ≤ 1000000000000 ∧ 0 ≤ (gt l i).2.2 ∧ (gt l i).2.2 < 4294967296) :
    Calls Try.prog 154 #[.slice a n c] w fun e' w' => e' = .returned (.bool (zUpto l 4)) ∧ Below w.heap.size w w' := by
  have HL := Lib.hid hl
  have HB := Lib.hid hb
  have HLEN := Lib.hid hl.len
  clear hl hb
  go_enter Try.func154, Try.ntmps154
  go_wp2
  go_loopw [12] (fun i wr => ∃ k : Nat, i = .int .i64 k ∧ k ≤ 4 ∧ Hid (zUpto l k = true) ∧ Hid (Below w.heap.size w wr)) (fun i _ => 4 - (intOf i).toNat)
  case atStart => exact ⟨0, rfl, by omega, Lib.hid rfl, Lib.hid (Below.refl _ _)⟩
  case round =>
    obtain ⟨k, rfl, hk, hZ, hBr⟩ := hrel
    rcases Nat.lt_or_ge k 4 with hlt | hge
    · have i1 : (k : Int) < 4 := by omega
      have i2 : (0 : Int) ≤ (k : Int) := by omega
      obtain ⟨p, hp⟩ : ∃ p, p = pm k := ⟨_, rfl⟩
      have hpp := pm_pos k
      rw [← hp] at hpp
      obtain ⟨hp0, hp1⟩ := hpp
      have hidx : ∀ w' : World, (Instr.index 210 (.agg #[.int .i64 4294967291, .int .i64 4294967279, .int .i64 4294967231, .int .i64 4294967197]) (.int .i64 (k : Int))).run Try.prog w' = .ok (.int .i64 (p : Int)) w' := by
        intro w'
        rw [hp]
        rcases k with _ | _ | _ | _ | k
        · kernel_rfl
        · kernel_rfl
        · kernel_rfl
        · kernel_rfl
        · omega
      ·
        have HPK := Lib.hid hp
        clear hp
        have hpi : (0 : Int) < (p : Int) := by omega
        have hpe : ((p : Int) == 0) = false := by simp; omega
        obtain ⟨w0, rfl⟩ : ∃ w', w' = wr := ⟨wr, rfl⟩
        have HBw := hBr
        clear hBr
        go_wp2_with fail
        go_loopw [5, 17] (fun s i wr => ∃ j : Nat, s = .int .i64 (tS l j % (p : Int)) ∧ i = .int .i64 j ∧ j ≤ n ∧ Hid (Below w0.heap.size w0 wr)) (fun _ i _ => n - (intOf i).toNat)
        case atStart => exact ⟨0, by simp [tS], rfl, Nat.zero_le _, Lib.hid (Below.refl _ _)⟩
        case round =>
          obtain ⟨j, rfl, rfl, hj, hBr⟩ := hrel
          have hbS := mod_lt (a := tS l j) hp0 hp1
          obtain ⟨X, hX⟩ : ∃ X, X = tS l j % (p : Int) := ⟨_, rfl⟩
          rw [← hX] at hbS ⊢
          have HX := Lib.hid hX
          clear hX
          obtain ⟨hX0, hX1, _⟩ := hbS
          rcases Nat.lt_or_ge j n with hlt2 | hge2
          · obtain ⟨b, o, rfl, hbb, hcc⟩ := HL.out.addr (by omega)
            have hbd := HB.out j hlt2
            obtain ⟨B1, hB1⟩ : ∃ B, B = (gt l j).1 := ⟨_, rfl⟩
            obtain ⟨N1, hN1⟩ : ∃ B, B = (gt l j).2.1 := ⟨_, rfl⟩
            obtain ⟨D1, hD1⟩ : ∃ B, B = (gt l j).2.2 := ⟨_, rfl⟩
            have hww := HBw.out.trans (hBr.out.mono HBw.out.size)
            have c0 : wr.cell? ⟨b, o + j * 3, none⟩ = some (.int .i64 B1) := by rw [cellB hww _ _ hbb, hB1]; exact (hcc j hlt2).1
            have c1 : wr.cell? ⟨b, o + j * 3 + 1, none⟩ = some (.int .i64 N1) := by rw [cellB hww _ _ hbb, hN1]; exact (hcc j hlt2).2.1
            have c2 : wr.cell? ⟨b, o + j * 3 + 2, none⟩ = some (.int .i64 D1) := by rw [cellB hww _ _ hbb, hD1]; exact (hcc j hlt2).2.2
            rw [← hB1, ← hN1, ← hD1] at hbd
            have HCC := Lib.hid hcc
            have HWW := Lib.hid hww
            have hm1 := fun w' => modulo_any B1 p w' (h0 := by omega) (h1 := by omega) (hp := hp0) (hp2 := hp1)
            have hm2 := fun w' => modulo_any N1 p w' (h0 := by omega) (h1 := by omega) (hp := hp0) (hp2 := hp1)
            have q1 := mod_lt (a := B1) hp0 hp1
            have q2 := mod_lt (a := N1) hp0 hp1
            have q3 := mod_lt (a := B1 * N1) hp0 hp1
            have hpr := fun w' => product_any (B1 % (p : Int)).toNat (N1 % (p : Int)).toNat p q1.2.2 q2.2.2 hp0 hp1 w'
            rw [mod_mul3 B1 N1 p hp0, Int.toNat_of_nonneg q1.1, Int.toNat_of_nonneg q2.1] at hpr
            have HT0 := Lib.hid (show B1 * N1 % (p : Int) = tT l j 0 % (p : Int) by rw [hB1, hN1]; rfl)
            obtain ⟨y1, hy1⟩ : ∃ y, y = B1 % (p : Int) := ⟨_, rfl⟩
            obtain ⟨y2, hy2⟩ : ∃ y, y = N1 % (p : Int) := ⟨_, rfl⟩
            obtain ⟨y3, hy3⟩ : ∃ y, y = B1 * N1 % (p : Int) := ⟨_, rfl⟩
            rw [← hy1] at hm1 hpr
            rw [← hy2] at hm2 hpr
            rw [← hy3] at hpr HT0
            have HM1 := Lib.hid hm1
            have HM2 := Lib.hid hm2
            have HPR := Lib.hid hpr
            have i3 : (0 : Int) ≤ (j : Int) := by omega
            have i4 : (j : Int) < (n : Int) := by omega
            clear hB1 hN1 hD1 hm1 hm2 hpr hcc hww q1 q2 q3 hy1 hy2 hy3
            go_wp2_with fail
            generalize hW : wr.alloc _ = wa
            have hba : Below wr.heap.size wr wa := by rw [← hW]; (repeat' (first | (with_reducible exact Below.refl _ _) | (with_reducible assumption) | (with_reducible refine Below.drewN ?_ _) | (with_reducible refine Below.alloc ?_ ?_ _) | (with_reducible refine Below.drew ?_) | (with_reducible refine Below.setCell ?_ ?_ _) | (with_reducible refine Below.step (by assumption) ?_ ?_) | (with_reducible exact And.left (by assumption)) | go_size))
            have a0 : wa.cell? ⟨wr.heap.size, 0, none⟩ = some (.int .i64 B1) := by { rw [← hW]; clear hW; go_simp }
            have a1 : wa.cell? ⟨wr.heap.size, 1, none⟩ = some (.int .i64 N1) := by { rw [← hW]; clear hW; go_simp }
            have a2 : wa.cell? ⟨wr.heap.size, 2, none⟩ = some (.int .i64 D1) := by { rw [← hW]; clear hW; go_simp }
            have HBa := Lib.hid (hBr.out.trans (hba.mono hBr.out.size))
            clear hW c0 c1 c2 hba
            generalize wr.heap.size = X7 at *
            refine drew_of_eq 10 (by kernel_rfl) (by kernel_rfl) ?_; simp only [List.take_succ_cons, List.take_zero, List.drop_succ_cons, List.drop_zero]; repeat go_big_quiet_step (first | (go_at_call_of 168 B1; exact calls_drew_same (HM1.out _)) | (go_at_call_of 168 N1; exact calls_drew_same (HM2.out _)))
            refine wpQuiet_nil ?_; intro m1
            go_wp2_with fail
            refine (HPR.out _).mono ?_
            rintro e5 w5 ⟨rfl, m2, rfl⟩
            have HBb := Lib.hid ((HBa.out.drewN m1).drewN m2)
            clear HBa
            generalize (wa.drewN m1).drewN m2 = wb at *
            clear a0 a1 a2
            go_wp2_with fail
            go_loopw [8, 35] (fun v i wr => ∃ m : Nat, v = .int .i64 (tT l j m % (p : Int)) ∧ i = .int .i64 m ∧ m ≤ n ∧ Hid (Below w0.heap.size w0 wr)) (fun _ i _ => n - (intOf i).toNat)
            case atStart => exact ⟨0, by rw [HT0.out], rfl, Nat.zero_le _, HBb⟩
            case round =>
              obtain ⟨m, rfl, rfl, hm, hBq⟩ := hrel
              have hbT := mod_lt (a := tT l j m) hp0 hp1
              obtain ⟨Y, hY⟩ : ∃ X, X = tT l j m % (p : Int) := ⟨_, rfl⟩
              have hww := HBw.out.trans (hBq.out.mono HBw.out.size)
              rcases Nat.lt_or_ge m n with hlt3 | hge3
              · have hbd := HB.out m hlt3
                obtain ⟨B2, hB2⟩ : ∃ B, B = (gt l m).1 := ⟨_, rfl⟩
                obtain ⟨N2, hN2⟩ : ∃ B, B = (gt l m).2.1 := ⟨_, rfl⟩
                obtain ⟨D2, hD2⟩ : ∃ B, B = (gt l m).2.2 := ⟨_, rfl⟩
                have c0 : wr.cell? ⟨b, o + m * 3, none⟩ = some (.int .i64 B2) := by rw [cellB hww _ _ hbb, hB2]; exact (HCC.out m hlt3).1
                have c1 : wr.cell? ⟨b, o + m * 3 + 1, none⟩ = some (.int .i64 N2) := by rw [cellB hww _ _ hbb, hN2]; exact (HCC.out m hlt3).2.1
                have c2 : wr.cell? ⟨b, o + m * 3 + 2, none⟩ = some (.int .i64 D2) := by rw [cellB hww _ _ hbb, hD2]; exact (HCC.out m hlt3).2.2
                rw [← hD2] at hbd
                have hpr := fun w' => product_any (tT l j m % (p : Int)).toNat D2.toNat p hbT.2.2 (by omega) hp0 hp1 w'
                rw [mod_mul2 (tT l j m) D2.toNat p hp0, Int.toNat_of_nonneg hbT.1, Int.toNat_of_nonneg (show 0 ≤ D2 by omega)] at hpr
                have hst : tT l j (m + 1) = if m = j then tT l j m else tT l j m * D2 := by rw [hD2]; rfl
                rw [← hY] at hpr ⊢
                have i5 : (0 : Int) ≤ (m : Int) := by omega
                have i6 : (m : Int) < (n : Int) := by omega
                by_cases hmj : m = j
                · have hmb : ((m : Int) != (j : Int)) = false := by simp; omega
                  rw [if_pos hmj] at hst
                  have HYN := Lib.hid (show Y = tT l j (m + 1) % (p : Int) by rw [hst, hY])
                  clear hB2 hN2 hD2 hpr hst hY hww hbT hmj
                  go_wp2_with fail
                  have HBn := Lib.hid (show Below w0.heap.size w0 (wr.alloc (Obj.cells #[.int .i64 B2, .int .i64 N2, .int .i64 D2] 200)) from (by have := hBq.out; have := hBq.out.size; (repeat' (first | (with_reducible exact Below.refl _ _) | (with_reducible assumption) | (with_reducible refine Below.drewN ?_ _) | (with_reducible refine Below.alloc ?_ ?_ _) | (with_reducible refine Below.drew ?_) | (with_reducible refine Below.setCell ?_ ?_ _) | (with_reducible refine Below.step (by assumption) ?_ ?_) | (with_reducible exact And.left (by assumption)) | go_size))))
                  go_roundw
                  case rel => exact ⟨m + 1, by rw [HYN.out], by go_num, by omega, HBn⟩
                  case measure => simp [intOf]; omega
                · have hmb : ((m : Int) != (j : Int)) = true := by simp; omega
                  rw [if_neg hmj] at hst
                  obtain ⟨Z, hZ2⟩ : ∃ X, X = tT l j m * D2 % (p : Int) := ⟨_, rfl⟩
                  have HZN := Lib.hid (show Z = tT l j (m + 1) % (p : Int) by rw [hst, hZ2])
                  rw [← hZ2] at hpr
                  have HPR2 := Lib.hid hpr
                  clear hB2 hN2 hD2 hpr hst hY hww hbT hmj hZ2
                  go_wp2_with fail
                  refine (HPR2.out _).mono ?_
                  rintro e6 w6 ⟨rfl, m3, rfl⟩
                  have HBn := Lib.hid (show Below w0.heap.size w0 ((wr.alloc (Obj.cells #[.int .i64 B2, .int .i64 N2, .int .i64 D2] 200)).drewN m3) from (by have := hBq.out; have := hBq.out.size; (repeat' (first | (with_reducible exact Below.refl _ _) | (with_reducible assumption) | (with_reducible refine Below.drewN ?_ _) | (with_reducible refine Below.alloc ?_ ?_ _) | (with_reducible refine Below.drew ?_) | (with_reducible refine Below.setCell ?_ ?_ _) | (with_reducible refine Below.step (by assumption) ?_ ?_) | (with_reducible exact And.left (by assumption)) | go_size))))
                  go_wp2_with fail
                  go_roundw
                  case rel => exact ⟨m + 1, by rw [HZN.out], by go_num, by omega, HBn⟩
                  case measure => simp [intOf]; omega
              · obtain rfl : n = m := by omega
                rw [← hY] at hbT ⊢
                obtain ⟨hY0, hY1, _⟩ := hbT
                obtain ⟨Z, hZ2⟩ : ∃ Z, Z = (X + Y) % (p : Int) := ⟨_, rfl⟩
                have hz1 : (X + Y).tmod (p : Int) = Z := by rw [hZ2, Int.tmod_eq_emod_of_nonneg (by omega)]
                have hz2 : (X + Y) % (p : Int) = Z := hZ2.symm
                have HZN := Lib.hid (show Z = tS l (j + 1) % (p : Int) by
                  show Z = (tS l j + tT l j l.length) % (p : Int)
                  rw [HLEN.out, hZ2, HX.out, hY, ← Int.add_emod])
                clear hZ2 hY hww
                go_wp2
                go_roundw
                case rel => exact ⟨j + 1, by rw [HZN.out], by go_num, by omega, hBq⟩
                case measure => simp [intOf]; omega
          · obtain rfl : n = j := by omega
            have HBn := Lib.hid (HBw.out.trans (hBr.out.mono HBw.out.size))
            by_cases hX2 : X = 0
            · have hb0 : (X != 0) = false := by simpa using hX2
              have HZ2 := Lib.hid (show zUpto l (k + 1) = true by
                rw [zUpto, hZ.out, HLEN.out, ← HPK.out, ← HX.out, hX2]; rfl)
              clear hX2
              go_wp2
              go_roundw
              case rel => exact ⟨k + 1, by go_num, by omega, HZ2, HBn⟩
              case measure => simp [intOf]; omega
            · have hb0 : (X != 0) = true := by simpa using hX2
              have HZ2 := Lib.hid (show zUpto l 4 = false by
                have h1 : zUpto l (k + 1) = false := by
                  rw [zUpto, HLEN.out, ← HPK.out, ← HX.out]; simp [hX2]
                have h2 := zUpto_false l (3 - k) (k + 1) h1
                rwa [show k + 1 + (3 - k) = 4 by omega] at h2)
              clear hX2
              go_wp2
              go_ret
              exact ⟨ret_bool (by rw [HZ2.out]), HBn.out⟩
    · obtain rfl : k = 4 := by omega
      go_wp2
      go_ret
      exact ⟨ret_bool (by rw [hZ.out]), hBr.out⟩
end Go.Proofs.Ytiellefbndlkkaa
