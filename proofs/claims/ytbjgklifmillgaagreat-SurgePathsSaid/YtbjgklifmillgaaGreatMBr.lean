import Derived.Test.YtbjgklifmillgaaGreatBlk
import Derived.Test.YtbjgklifmillgaaGreatRat3
import Derived.Test.YtbjgklifmillgaaGreatRatPl
import Derived.Test.YtbjgklifmillgaaGreatSmall
/- Quotients in memory: contracts in one form, without the solver. -/
namespace Go.Proofs.YtbjgklifmillgaaGreat
open Go.RowKit
set_option linter.unusedVariables false

set_option maxRecDepth 100000 in
theorem zero_any (w : World) : Calls Tryz.prog 49 #[] w fun e' w' => ∃ v', e' = .returned v' ∧ Below w.heap.size w w' ∧ RatioR (fun b => w.heap.size ≤ b) w' v' 0 := by
  have HOF := Lib.hid (fun w' => ratioInt_any 0 w' (by omega) (by omega))
  go_enter Tryz.func49, Tryz.ntmps49
  go_wp2_with fail
  generalize hW : World.alloc _ _ = w6
  have hb6 : Below w.heap.size w w6 := by rw [← hW]; (repeat' (first | (with_reducible exact Below.refl _ _) | (with_reducible assumption) | (with_reducible refine Below.drewN ?_ _) | (with_reducible refine Below.alloc ?_ ?_ _) | (with_reducible refine Below.drew ?_) | (with_reducible refine Below.setCell ?_ ?_ _) | (with_reducible refine Below.step (by assumption) ?_ ?_) | (with_reducible exact And.left (by assumption)) | go_size))
  have hz6 : w6.heap.size = w.heap.size + 1 := by rw [← hW]; simp
  have z0 : w6.cell? ⟨w.heap.size, 0, none⟩ = some (.int .i64 0) := by { rw [← hW]; clear hW; go_simp }
  have z1 : w6.cell? ⟨w.heap.size, 1, none⟩ = some (.slice none 0 0) := by { rw [← hW]; clear hW; go_simp }
  have z2 : w6.cell? ⟨w.heap.size, 2, none⟩ = some (.int .i64 0) := by { rw [← hW]; clear hW; go_simp }
  have z3 : w6.cell? ⟨w.heap.size, 3, none⟩ = some (.slice none 0 0) := by { rw [← hW]; clear hW; go_simp }
  have f0 : w6.frozen? ⟨w.heap.size, 0, none⟩ = false := by { rw [← hW]; clear hW; go_simp }
  have f1 : w6.frozen? ⟨w.heap.size, 1, none⟩ = false := by { rw [← hW]; clear hW; go_simp }
  have f2 : w6.frozen? ⟨w.heap.size, 2, none⟩ = false := by { rw [← hW]; clear hW; go_simp }
  have f3 : w6.frozen? ⟨w.heap.size, 3, none⟩ = false := by { rw [← hW]; clear hW; go_simp }
  have l : w.heap.size < w6.heap.size := by rw [← hW]; simp
  have HB6 := Lib.hid hb6
  clear hW hb6
  refine (HOF.out _).mono ?_
  rintro e9 w9 ⟨v9, rfl, hb9, hW9⟩
  have hz9 := hb9.size
  have z0c : w9.cell? ⟨w.heap.size, 0, none⟩ = some (.int .i64 0) := by { rw [cellB hb9 _ _ (by first | (simp; done) | (simp; omega) | omega)]; all_goals (first | assumption | go_simp) }; have z1c : w9.cell? ⟨w.heap.size, 1, none⟩ = some (.slice none 0 0) := by { rw [cellB hb9 _ _ (by first | (simp; done) | (simp; omega) | omega)]; all_goals (first | assumption | go_simp) }; have z2c : w9.cell? ⟨w.heap.size, 2, none⟩ = some (.int .i64 0) := by { rw [cellB hb9 _ _ (by first | (simp; done) | (simp; omega) | omega)]; all_goals (first | assumption | go_simp) }; have z3c : w9.cell? ⟨w.heap.size, 3, none⟩ = some (.slice none 0 0) := by { rw [cellB hb9 _ _ (by first | (simp; done) | (simp; omega) | omega)]; all_goals (first | assumption | go_simp) }; have f0c : w9.frozen? ⟨w.heap.size, 0, none⟩ = false := by { rw [frozenB hb9 _ _ (by first | (simp; done) | (simp; omega) | omega)]; all_goals (first | assumption | go_simp) }; have f1c : w9.frozen? ⟨w.heap.size, 1, none⟩ = false := by { rw [frozenB hb9 _ _ (by first | (simp; done) | (simp; omega) | omega)]; all_goals (first | assumption | go_simp) }; have f2c : w9.frozen? ⟨w.heap.size, 2, none⟩ = false := by { rw [frozenB hb9 _ _ (by first | (simp; done) | (simp; omega) | omega)]; all_goals (first | assumption | go_simp) }; have f3c : w9.frozen? ⟨w.heap.size, 3, none⟩ = false := by { rw [frozenB hb9 _ _ (by first | (simp; done) | (simp; omega) | omega)]; all_goals (first | assumption | go_simp) }; have lc : w.heap.size < w9.heap.size := by { omega }
  have HB9 := Lib.hid hb9
  have HW9 := Lib.hid (hW9.mono (p' := fun b => w.heap.size + 1 ≤ b) (fun b hb => by omega))
  obtain ⟨t1, b1, o1, k1, t2, b2, o2, k2, rfl, _⟩ := hW9
  clear hb9 HOF z0 z1 z2 z3 f0 f1 f2 f3 l
  go_wp2
  refine bodyPost_ret (v := .agg #[.int .i64 t1, .slice b1 o1 k1, .int .i64 t2, .slice b2 o2 k2]) (by simp [results, Tryz.results49, go_sem, *]) rfl ⟨_, rfl, ?_, ?_⟩
  · exact ((((HB6.out.trans (HB9.out.mono (by omega))).setCell (by simp) _).setCell (by simp) _).setCell (by simp) _).setCell (by simp) _
  · refine RatioR.mono (p := fun b => w.heap.size + 1 ≤ b) (RatioR.kept (w := w9) (by simpa using HW9.out) (by simp) (fun b hb => ?_)) (fun b hb => by omega)
    rw [Go.Deep.blk_setCell_other _ _ _ _ (by simp; omega), Go.Deep.blk_setCell_other _ _ _ _ (by simp; omega), Go.Deep.blk_setCell_other _ _ _ _ (by simp; omega), Go.Deep.blk_setCell_other _ _ _ _ (by simp; omega)]
def absR (q : Rat) : Rat := if q < 0 then 0 - q else q
theorem absR_neg {q : Rat} (h : q.num.sign < 0) : absR q = 0 - q := by unfold absR; rw [if_pos ((sign_num q).2.2.1 h)]
theorem absR_pos {q : Rat} (h : ¬ q.num.sign < 0) : absR q = q := by unfold absR; rw [if_neg (fun e => h ((sign_num q).2.2.2 e))]
theorem sz_absR {K : Nat} {q : Rat} (h : Sz K q) : Sz (1 + K + 1) (absR q) := by
  unfold absR
  split
  · exact sz_sub (by have := sz_int (n := 0) (by omega) (by omega); simpa using this) h
  · exact h.mono (by omega)
/-- A quotient in memory, its digits in blocks that are there. -/
def RB (w : World) (v : Value) (q : Rat) : Prop := RatioR (fun b => b < w.heap.size) w v q
theorem RB.below {w w' : World} {v : Value} {q : Rat} (h : RB w v q) (hb : Below w.heap.size w w') : RB w' v q :=
  (RatioR.below h hb).mono (fun b hlt => Nat.lt_of_lt_of_le hlt hb.size)
theorem RB.of {p : Nat → Prop} {w : World} {v : Value} {q : Rat} (h : RatioR p w v q) : RB w v q := h.here.mono (fun b hb => hb.2)
theorem RB.drew {w : World} {v : Value} {q : Rat} (h : RB w v q) : RB w.drew v q := RB.below h (Below.refl _ _).drew
/-- A quotient is handed out, its digits in new blocks. -/
def RBPost (w : World) (q : Rat) (e' : Ending) (w' : World) : Prop :=
  ∃ (s : Int) (a : Option Addr) (n c : Nat) (t : Int) (b : Option Addr) (m d : Nat), e' = .returned (.agg #[.int .i64 s, .slice a n c, .int .i64 t, .slice b m d]) ∧ Below w.heap.size w w' ∧ RB w' (.agg #[.int .i64 s, .slice a n c, .int .i64 t, .slice b m d]) q ∧ Hid (RatioR (fun b => w.heap.size ≤ b) w' (.agg #[.int .i64 s, .slice a n c, .int .i64 t, .slice b m d]) q)
theorem RBPost.mk {w w' : World} {q : Rat} {e' : Ending} {v : Value} (he : e' = .returned v) (hb : Below w.heap.size w w') (h : RatioR (fun b => w.heap.size ≤ b) w' v q) : RBPost w q e' w' := by
  have H := h
  obtain ⟨s, a, n, c, t, b, m, d, rfl, _, _⟩ := h
  exact ⟨s, a, n, c, t, b, m, d, he, hb, RB.of H, Lib.hid H⟩
theorem rb_int (x : Int) (w : World) (h0 : -9223372036854775807 ≤ x) (h1 : x ≤ 9223372036854775807) : Calls Tryz.prog 58 #[.int .i64 x] w (RBPost w (x : Rat)) :=
  (ratioInt_any x w h0 h1).mono (fun _ _ ⟨_, he, hb, h⟩ => RBPost.mk he hb h)
theorem rb_from (x y : Int) (w : World) (hy : y ≠ 0) (h0 : -9223372036854775807 ≤ x) (h1 : x ≤ 9223372036854775807) (h2 : -9223372036854775807 ≤ y) (h3 : y ≤ 9223372036854775807) : Calls Tryz.prog 47 #[.agg #[.int .i64 x, .int .i64 y]] w (RBPost w (Rat.divInt x y)) :=
  (ratioFrom_any x y w hy h0 h1 h2 h3).mono (fun _ _ ⟨_, he, hb, h⟩ => RBPost.mk he hb h)
theorem rb_sub (va vb : Value) (a b : Rat) (K M : Nat) (w : World) (h : RB w va a) (h' : RB w vb b) (ha : Sz K a) (hb : Sz M b) (hK : K + M + 1 ≤ 800000) : Calls Tryz.prog 44 #[va, vb] w (RBPost w (a - b)) :=
  (ratioSub_any _ va vb a b K M w h h' (fun _ hb => hb) ha hb hK).mono (fun _ _ ⟨_, he, hb, h⟩ => RBPost.mk he hb (h.mono (fun b hb => by omega)))
theorem rb_mul (va vb : Value) (a b : Rat) (K M : Nat) (w : World) (h : RB w va a) (h' : RB w vb b) (ha : Sz K a) (hb : Sz M b) (hK : K + M ≤ 800000) : Calls Tryz.prog 57 #[va, vb] w (RBPost w (a * b)) :=
  (ratioMul_any _ va vb a b K M w h h' ha hb hK).mono (fun _ _ ⟨_, he, hb, h⟩ => RBPost.mk he hb (h.mono (fun b hb => by omega)))
theorem rb_add (va vb : Value) (a b : Rat) (K M : Nat) (w : World) (h : RB w va a) (h' : RB w vb b) (ha : Sz K a) (hb : Sz M b) (hK : K + M + 1 ≤ 800000) : Calls Tryz.prog 50 #[va, vb] w (RBPost w (a + b)) :=
  (ratioAdd_any _ va vb a b K M w h h' ha hb hK).mono (fun _ _ ⟨_, he, hb, h⟩ => RBPost.mk he hb (h.mono (fun b hb => by omega)))
theorem rb_div (va vb : Value) (a b : Rat) (K M : Nat) (w : World) (h : RB w va a) (h' : RB w vb b) (hb0 : b ≠ 0) (ha : Sz K a) (hb : Sz M b) (hK : K + M ≤ 800000) : Calls Tryz.prog 66 #[va, vb] w (RBPost w (a / b)) :=
  (ratioDiv_any _ va vb a b K M w h h' hb0 ha hb hK).mono (fun _ _ ⟨_, he, hb, h⟩ => RBPost.mk he hb (h.mono (fun b hb => by omega)))
theorem rb_cmp (va vb : Value) (a b : Rat) (K M : Nat) (w : World) (h : RB w va a) (h' : RB w vb b) (ha : Sz K a) (hb : Sz M b) (hK : K + M ≤ 800000) : Calls Tryz.prog 43 #[va, vb] w fun e' w' => e' = .returned (.int .i64 (a.num * b.den - b.num * a.den).sign) ∧ Below w.heap.size w w' :=
  ratioCmp_any _ va vb a b K M w h h' ha hb hK
theorem rb_sign (v : Value) (q : Rat) (w : World) (h : RB w v q) : Calls Tryz.prog 48 #[v] w fun e' w' => e' = .returned (.int .i64 q.num.sign) ∧ Below w.heap.size w w' := ratioSign_any _ v q w h
theorem rb_frac (v : Value) (q : Rat) (w : World) (h : RB w v q) :
    Calls Tryz.prog 45 #[v] w fun e' w' => e' = .returned (.tuple #[.agg #[.int .i64 (if smallQ q = true then q.num else 0), .int .i64 (if smallQ q = true then (q.den : Int) else 0)], .bool (smallQ q)]) ∧ Below w.heap.size w w' := by
  refine (ratioFrac_any _ v q w h).mono ?_
  rintro e' w' ⟨rfl, hb⟩
  refine ⟨?_, hb⟩
  cases smallQ q <;> rfl
theorem rb_zero (w : World) : Calls Tryz.prog 49 #[] w (RBPost w 0) :=
  (zero_any w).mono (fun _ _ ⟨_, he, hb, h⟩ => RBPost.mk he hb h)
/-- A quotient is stored into a block that its digits do not lie in. -/
theorem RB.put {w0 w : World} {X : Nat} {s t : Int} {a b : Option Addr} {n c m d : Nat} {q : Rat} (h : RatioR (fun b => w0.heap.size ≤ b) w (.agg #[.int .i64 s, .slice a n c, .int .i64 t, .slice b m d]) q) (hX : X < w0.heap.size) :
    RB ((((w.setCell ⟨X, 0, none⟩ (.int .i64 s)).setCell ⟨X, 1, none⟩ (.slice a n c)).setCell ⟨X, 2, none⟩ (.int .i64 t)).setCell ⟨X, 3, none⟩ (.slice b m d)) (.agg #[.int .i64 s, .slice a n c, .int .i64 t, .slice b m d]) q := by
  refine RatioR.mono (p := fun b => w0.heap.size ≤ b ∧ b < w.heap.size) (RatioR.kept (w := w) h.here (by simp) (fun b hb => ?_)) (fun b hb => by simpa using hb.2)
  have : b ≠ X := by omega
  rw [Go.Deep.blk_setCell_other _ _ _ _ (by simpa using this), Go.Deep.blk_setCell_other _ _ _ _ (by simpa using this), Go.Deep.blk_setCell_other _ _ _ _ (by simpa using this), Go.Deep.blk_setCell_other _ _ _ _ (by simpa using this)]
theorem RB.put2 {p : Nat → Prop} {w : World} {X : Nat} {s t : Int} {a b : Option Addr} {n c m d : Nat} {q : Rat} (h : RatioR p w (.agg #[.int .i64 s, .slice a n c, .int .i64 t, .slice b m d]) q) (hne : ∀ b, p b → b ≠ X) :
    RB ((((w.setCell ⟨X, 0, none⟩ (.int .i64 s)).setCell ⟨X, 1, none⟩ (.slice a n c)).setCell ⟨X, 2, none⟩ (.int .i64 t)).setCell ⟨X, 3, none⟩ (.slice b m d)) (.agg #[.int .i64 s, .slice a n c, .int .i64 t, .slice b m d]) q := by
  refine RatioR.mono (p := fun b => p b ∧ b < w.heap.size) (RatioR.kept (w := w) h.here (by simp) (fun b hb => ?_)) (fun b hb => by simpa using hb.2)
  have : b ≠ X := hne b hb.1
  rw [Go.Deep.blk_setCell_other _ _ _ _ (by simpa using this), Go.Deep.blk_setCell_other _ _ _ _ (by simpa using this), Go.Deep.blk_setCell_other _ _ _ _ (by simpa using this), Go.Deep.blk_setCell_other _ _ _ _ (by simpa using this)]
end Go.Proofs.YtbjgklifmillgaaGreat

/- Fractions compared, of the reference. -/
namespace Go.Proofs.YtbjgklifmillgaaGreat
open Go.RowKit
set_option linter.unusedVariables false

def cmpJ (x y : Int) : Int := if x < y then -1 else if y < x then 1 else 0
theorem bcmpJ_any (a1 a2 b1 b2 : Int) (w : World) (h1 : -4000000000000000000 ≤ a1 * b2 ∧ a1 * b2 ≤ 4000000000000000000) (h2 : -4000000000000000000 ≤ b1 * a2 ∧ b1 * a2 ≤ 4000000000000000000) :
    Calls Tryz.prog 67 #[.agg #[.int .i64 a1, .int .i64 a2], .agg #[.int .i64 b1, .int .i64 b2]] w fun e' w' => e' = .returned (.int .i64 (cmpJ (a1 * b2) (b1 * a2))) ∧ Below w.heap.size w w' := by
  obtain ⟨R, hR⟩ : ∃ R, R = cmpJ (a1 * b2) (b1 * a2) := ⟨_, rfl⟩
  rw [← hR]
  have HR := Lib.hid hR
  clear hR
  go_enter Tryz.func67, Tryz.ntmps67
  go_wp2
  go_quiet (fail)
  go_wp2_with fail
  all_goals
    go_ret
    refine ⟨ret_int (by rw [HR.out]; unfold cmpJ; (repeat' split) <;> first | rfl | omega), ?_⟩
    (repeat' (first | (with_reducible exact Below.refl _ _) | (with_reducible assumption) | (with_reducible refine Below.drewN ?_ _) | (with_reducible refine Below.alloc ?_ ?_ _) | (with_reducible refine Below.drew ?_) | (with_reducible refine Below.setCell ?_ ?_ _) | (with_reducible refine Below.step (by assumption) ?_ ?_) | (with_reducible exact And.left (by assumption)) | go_size))
end Go.Proofs.YtbjgklifmillgaaGreat
