import Derived.Test.YtidboecjllaofaaGreatTBetP
import Derived.Test.YtidboecjllaofaaGreatTEx4
import Derived.Test.YtidboecjllaofaaGreatUTAwk
/- The law TapBetween: every load between. -/
namespace Go.Proofs.YtidboecjllaofaaGreat
open Go.RowKit Go.Shelf
set_option linter.unusedVariables false
set_option linter.unusedSimpArgs false
attribute [local go_sem] Oper.semAt_some
theorem bmod6_any (n b : Int) (w : World) (hb0 : 0 < b) (hb1 : b ≤ 1000000) (hn0 : -9223372036854775808 ≤ n) (hn1 : n ≤ 9223372036854775807) :
    Calls Tryz.prog 67 #[.int .i64 n, .int .i64 b] w fun e' w' => e' = .returned (.int .i64 (n % b)) ∧ w = w' := by
 have e1 : (b == 0) = false := by simp; omega
 have hb := tmod_lt n b (by omega)
 have hr3 : 0 ≤ n % b := Int.emod_nonneg n (by omega)
 have hr4 : n % b < b := Int.emod_lt_of_pos n hb0
 have hr : (n.tmod b < 0 ∧ n % b = n.tmod b + b) ∨ (¬ n.tmod b < 0 ∧ n % b = n.tmod b) := by
  rcases Int.le_total 0 n with h | h
  ·rw [Int.tmod_eq_emod_of_nonneg h]; exact .inr ⟨by omega, rfl⟩
  ·obtain ⟨m, rfl⟩ : ∃ m, n = -m := ⟨-n, by omega⟩
   have hm : 0 ≤ m := by omega
   have h1 : m % b < b := Int.emod_lt_of_pos m hb0
   have h2 : 0 ≤ m % b := Int.emod_nonneg m (by omega)
   rw [Int.neg_tmod, Int.tmod_eq_emod_of_nonneg hm]
   have h3 : m = b * (m / b) + m % b := (Int.mul_ediv_add_emod m b).symm
   by_cases h5 : m % b = 0
   ·refine .inr ⟨by omega, ?_⟩
    rw [h5, Int.neg_zero]
    have : -m = b * (-(m / b)) := by rw [Int.mul_neg]; omega
    rw [this, Int.mul_emod_right]
   ·refine .inl ⟨by omega, ?_⟩
    have h4 : -m = -(m % b) + b + b * (-(m / b) - 1) := by
     have : b * (-(m / b) - 1) = -(b * (m / b)) - b := by rw [Int.mul_sub, Int.mul_neg, Int.mul_one]
     omega
    rw [h4, Int.add_mul_emod_self_left]
    exact Int.emod_eq_of_lt (by omega) (by omega)
 obtain ⟨t, ht⟩ : ∃ t, t = n.tmod b := ⟨_, rfl⟩
 rw [← ht] at hr hb
 have hb2 : -1000000 ≤ t ∧ t ≤ 1000000 := by omega
 have ht2 : n.tmod b = t := ht.symm
 generalize n % b = R at *
 clear ht hb
 rcases hr with ⟨h1, rfl⟩ | ⟨h1, rfl⟩
 ·go_enter Tryz.func67, Tryz.ntmps67
  go_wp2
  go_ret
  exact ⟨rfl, rfl⟩
 ·go_enter Tryz.func67, Tryz.ntmps67
  go_wp2
  go_ret
  exact ⟨rfl, rfl⟩
theorem isLow6_any (a b : Int) (w : World) (ha0 : -9223372036854775807 ≤ a) (ha1 : a ≤ 9223372036854775807) (hb0 : 0 < b) (hb1 : b ≤ 9223372036854775807) (hg : gc a b = 1) :
    Calls Tryz.prog 29 #[.agg #[.int .i64 a, .int .i64 b]] w fun e' w' => e' = .returned (.bool true) ∧ Below w.heap.size w w' := by
 have HG := Lib.hid (fun w' => bgcd_any a b w' ha0 ha1 (by omega) hb1)
 rw [hg] at HG
 clear hg
 go_enter Tryz.func29, Tryz.ntmps29
 go_wp2_with fail
 refine (HG.out _).mono ?_
 rintro e5 w5 ⟨rfl, k, rfl⟩
 go_wp2
 go_ret
 exact ⟨rfl, by (repeat' first|(with_reducible first|exact bw1|assumption|refine bw2 ?_ _|refine bw3 ?_ ?_ _|refine bw4 ?_|refine bw5 ?_ ?_ _|refine bw6 (by assumption) ?_ ?_|exact And.left (by assumption))|go_size)⟩
theorem bt1 {l : List Int} : firstErr (0 :: l) = firstErr l := by show (if (0 : Int) = 0 then _ else _) = _; rw [if_pos rfl]
theorem sz_lowest {q : Rat} : gc (sz q.num) (q.den : Int) = 1 := by
 have h := (frR_lowest q).2
 unfold gc at h ⊢
 have : Int.gcd (sz q.num) (q.den : Int) = Int.gcd (frR q).1 (frR q).2 := by
  unfold frR sz
  rcases Int.le_total 0 q.num with h | h
  ·rw [show max q.num (-q.num) = q.num by omega]
  ·rw [show max q.num (-q.num) = -q.num by omega, Int.neg_gcd]
 rw [this]; exact h
structure BetL (m : Mac) (l : Lim) (n k : Nat) (x2 : Int) : Prop where
 nx : chsE m l (trn n k : Nat) = 0
 wide : chmE m ⟨l.volt, l.lo, l.hi, 1000, min 1000 (l.brk + 1), 1000⟩ (n : Int) (k : Int) = 0
 ld : -1000 ≤ x2 ∧ x2 ≤ 1000
 cl : n.testBit k = true → l.lo ≤ x2 → x2 ≤ l.hi → batE m l (n : Int) (k : Int) x2 = 0 ∧ batV m l (n : Int) (k : Int) x2 = (brkC m l n k x2, brkV m l n k x2)
  ∧ ((gc (brkC m l n k x2).1 (brkC m l n k x2).2 = 1 ∧ 0 ≤ (brkC m l n k x2).1 ∧ (brkC m l n k x2).1 ≤ 1000000000 ∧ 0 < (brkC m l n k x2).2 ∧ (brkC m l n k x2).2 ≤ 1000000000) ∧ ¬ l.brk * (brkC m l n k x2).2 < (brkC m l n k x2).1)
  ∧ (gc (brkV m l n k x2).1 (brkV m l n k x2).2 = 1 ∧ 0 ≤ (brkV m l n k x2).1 ∧ (brkV m l n k x2).1 ≤ 1000000000 ∧ 0 < (brkV m l n k x2).2 ∧ (brkV m l n k x2).2 ≤ 1000000000) ∧ ¬ l.ret * (brkV m l n k x2).2 < (brkV m l n k x2).1
theorem betLaw {m : Mac} {l : Lim} {n k : Nat} {x2 : Int} (ho : opnE m l = 0) (hs : staE m.br.length (n : Int) = 0) (hc : conE m.br.length (k : Int) = 0) (hx : l.lo ≤ x2 ∧ x2 ≤ l.hi) (hg : chmE m l (n : Int) (k : Int) = 0) : BetL m l n k x2 := by
 obtain ⟨hm, hl⟩ := opnE_zero ho
 have hlz := limE_zero.1 hl
 have hs2 := staE_zero.1 hs
 have hc2 := conE_zero.1 hc
 have h6 := hm.n1
 have hn : n < 2 ^ m.br.length := by
  have : ((2 ^ m.br.length : Nat) : Int) = (2 : Int) ^ m.br.length := by push_cast; rfl
  omega
 have hk : k < m.br.length := by omega
 have hts : trn n k < 2 ^ m.br.length := trn_lt h6 hn hk
 have z : chmZ m l (n : Int) (k : Int) = 0 := by unfold chmZ; rw [ho, bt1, hs, bt1, hc, bt1]; rfl
 have hge : chgE m l n k = 0 := by
  unfold chmE at hg
  rw [z, if_neg (by decide), Int.toNat_natCast, Int.toNat_natCast] at hg
  exact hg
 obtain ⟨g1, g2, g3, g4⟩ := chgE_parts hge
 have a1 : AffV m l n := ⟨hm, hlz.1, hn, curE_s0 g2⟩
 have a2 : AffV m l (trn n k) := ⟨hm, hlz.1, hts, curE_s0 (safE_cur g3)⟩
 have hsp : staE m.br.length ((trn n k : Nat) : Int) = 0 := by
  rw [staE_zero]
  have : ((2 ^ m.br.length : Nat) : Int) = (2 : Int) ^ m.br.length := by push_cast; rfl
  omega
 have hbd : ∀ load, -1000 ≤ load → load ≤ 1000 → (gc (brkC m l n k load).1 (brkC m l n k load).2 = 1 ∧ 0 ≤ (brkC m l n k load).1 ∧ (brkC m l n k load).1 ≤ 1000000000 ∧ 0 < (brkC m l n k load).2 ∧ (brkC m l n k load).2 ≤ 1000000000)
  ∧ (gc (brkV m l n k load).1 (brkV m l n k load).2 = 1 ∧ 0 ≤ (brkV m l n k load).1 ∧ (brkV m l n k load).1 ≤ 1000000000 ∧ 0 < (brkV m l n k load).2 ∧ (brkV m l n k load).2 ≤ 1000000000) := by
  intro load d0 d1
  have e1 := a1.el ⟨d0, d1⟩
  have e2 := a2.el ⟨d0, d1⟩
  have b1 := curT_bd e1 hk
  have b2 := brkW_small e2 hk
  refine ⟨⟨by rw [brkC_z e1 hk]; exact sz_lowest, ?_, ?_, ?_, ?_⟩, ⟨by rw [brkV_q e2]; exact sz_lowest, ?_, ?_, ?_, ?_⟩⟩
  ·unfold brkC sz; omega
  ·unfold brkC sz; omega
  ·exact b1.2.1
  ·have : (brkC m l n k load).2 = ((curT m l n load).getD k (0, 0)).2 := rfl
   omega
  ·unfold brkV sz; omega
  ·unfold brkV sz; omega
  ·exact b2.2.1
  ·exact b2.2.2
 have hcir : 0 ≤ (cirA m l (trn n k)).2 := Int.le_of_lt (cirF_bd (a2.el (load := 0) (by omega)) (Nat.le_refl _)).2.1
 refine ⟨?_, ?_, by omega, fun ht h1 h2 => ?_⟩
 ·have z2 : chsZ m l ((trn n k : Nat) : Int) = 0 := by unfold chsZ; rw [ho, bt1, hsp, bt1]; rfl
  unfold chsE
  rw [z2, if_neg (by decide), Int.toNat_natCast]
  exact g3
 ·have hl' : limE ⟨l.volt, l.lo, l.hi, 1000, min 1000 (l.brk + 1), 1000⟩ = 0 := limE_zero.2 (by simp only; omega)
  have ho' : opnE m ⟨l.volt, l.lo, l.hi, 1000, min 1000 (l.brk + 1), 1000⟩ = 0 := by
   unfold opnE at ho ⊢
   have : (macE m).2 = 0 := by
    rw [firstErr_cons] at ho
    exact ho.1
   rw [this, bt1, hl']; rfl
  have z3 : chmZ m ⟨l.volt, l.lo, l.hi, 1000, min 1000 (l.brk + 1), 1000⟩ (n : Int) (k : Int) = 0 := by unfold chmZ; rw [ho', bt1, hs, bt1, hc, bt1]; rfl
  unfold chmE
  rw [z3, if_neg (by decide), Int.toNat_natCast, Int.toNat_natCast]
  refine chgE_wider (l := l) rfl rfl rfl (by simp only; omega) (by simp only; omega) (by simp only; omega) hcir (fun load hx => ?_) hge
  have := hbd load (by omega) (by omega)
  omega
 ·obtain ⟨g5, g6⟩ := g4 ht
  have hb := lod_between a1 a2 hk (by omega) (by omega) h1 h2 g5 g6
  have hbx := hbd x2 (by omega) (by omega)
  have hlo : loaE x2 = 0 := by rw [loaE_zero]; omega
  have z4 : batZ m l (n : Int) (k : Int) x2 = 0 := by unfold batZ; rw [ho, bt1, hs, bt1, hc, bt1, hlo, bt1]; rfl
  have hre : rbrE m n k = 0 := by
   unfold rbrE
   rw [if_neg (by rw [ht]; decide), if_neg (by rw [g2]; decide)]
   exact safE_cur g3
  refine ⟨?_, ?_, ⟨hbx.1, hb.1⟩, hbx.2, hb.2⟩
  ·unfold batE
   rw [z4, if_neg (by decide), Int.toNat_natCast, Int.toNat_natCast]
   exact hre
  ·unfold batV
   rw [z4, if_neg (by decide), Int.toNat_natCast, Int.toNat_natCast]
   unfold rbrV
   rw [hre, if_pos rfl]
end Go.Proofs.YtidboecjllaofaaGreat
