import Derived.Test.YtbjgklifmillgaaGreatBlk
import Derived.Test.YtbjgklifmillgaaGreatDist
import Derived.Test.YtbjgklifmillgaaGreatMFr
import Derived.Test.YtbjgklifmillgaaGreatRat3
import Derived.Test.YtbjgklifmillgaaGreatRatPl
/- Quotients in memory: contracts in one form. -/
namespace Go.Proofs.YtbjgklifmillgaaGreat
open Go.RowKit
set_option linter.unusedVariables false

/-- A quotient in memory, its digits in blocks that are there. -/
def RB (w : World) (v : Value) (q : Rat) : Prop := RatioR (fun b => b < w.heap.size) w v q
theorem RB.below {w w' : World} {v : Value} {q : Rat} (h : RB w v q) (hb : Below w.heap.size w w') : RB w' v q :=
  (RatioR.below h hb).mono (fun b hlt => Nat.lt_of_lt_of_le hlt hb.size)
theorem RB.of {p : Nat → Prop} {w : World} {v : Value} {q : Rat} (h : RatioR p w v q) : RB w v q := h.here.mono (fun b hb => hb.2)
theorem RB.drew {w : World} {v : Value} {q : Rat} (h : RB w v q) : RB w.drew v q := RB.below h (Below.refl _ _).drew
/-- A quotient is handed out, its digits in new blocks. -/
def RBPost (w : World) (q : Rat) (e' : Ending) (w' : World) : Prop :=
  ∃ (s : Int) (a : Option Addr) (n c : Nat) (t : Int) (b : Option Addr) (m d : Nat), e' = .returned (.agg #[.int .i64 s, .slice a n c, .int .i64 t, .slice b m d]) ∧ Below w.heap.size w w' ∧ RB w' (.agg #[.int .i64 s, .slice a n c, .int .i64 t, .slice b m d]) q ∧ Hid (RatioR (fun b => w.heap.size ≤ b) w' (.agg #[.int .i64 s, .slice a n c, .int .i64 t, .slice b m d]) q)
theorem RBPost.mk {w w' : World} {q : Rat} {e' : Ending} {v : Value} (he : e' = .returned v) (hb : Below w.heap.size w w') (h : RatioR (fun b => w.heap.size ≤ b) w' v q) : RBPost w q e' w' := by
  have H := h
  obtain ⟨s, a, n, c, t, b, m, d, rfl, _, _⟩ := h
  exact ⟨s, a, n, c, t, b, m, d, he, hb, RB.of H, Lib.hid H⟩
theorem rb_int (x : Int) (w : World) (h0 : -9223372036854775807 ≤ x) (h1 : x ≤ 9223372036854775807) : Calls Tryz.prog 58 #[.int .i64 x] w (RBPost w (x : Rat)) :=
  (ratioInt_any x w h0 h1).mono (fun _ _ ⟨_, he, hb, h⟩ => RBPost.mk he hb h)
theorem rb_from (x y : Int) (w : World) (hy : y ≠ 0) (h0 : -9223372036854775807 ≤ x) (h1 : x ≤ 9223372036854775807) (h2 : -9223372036854775807 ≤ y) (h3 : y ≤ 9223372036854775807) : Calls Tryz.prog 47 #[.agg #[.int .i64 x, .int .i64 y]] w (RBPost w (Rat.divInt x y)) :=
  (ratioFrom_any x y w hy h0 h1 h2 h3).mono (fun _ _ ⟨_, he, hb, h⟩ => RBPost.mk he hb h)
theorem rb_sub (va vb : Value) (a b : Rat) (K M : Nat) (w : World) (h : RB w va a) (h' : RB w vb b) (ha : Sz K a) (hb : Sz M b) (hK : K + M + 1 ≤ 800000) : Calls Tryz.prog 44 #[va, vb] w (RBPost w (a - b)) :=
  (ratioSub_any _ va vb a b K M w h h' (fun _ hb => hb) ha hb hK).mono (fun _ _ ⟨_, he, hb, h⟩ => RBPost.mk he hb (h.mono (fun b hb => by omega)))
theorem rb_mul (va vb : Value) (a b : Rat) (K M : Nat) (w : World) (h : RB w va a) (h' : RB w vb b) (ha : Sz K a) (hb : Sz M b) (hK : K + M ≤ 800000) : Calls Tryz.prog 57 #[va, vb] w (RBPost w (a * b)) :=
  (ratioMul_any _ va vb a b K M w h h' ha hb hK).mono (fun _ _ ⟨_, he, hb, h⟩ => RBPost.mk he hb (h.mono (fun b hb => by omega)))
theorem rb_add (va vb : Value) (a b : Rat) (K M : Nat) (w : World) (h : RB w va a) (h' : RB w vb b) (ha : Sz K a) (hb : Sz M b) (hK : K + M + 1 ≤ 800000) : Calls Tryz.prog 50 #[va, vb] w (RBPost w (a + b)) :=
  (ratioAdd_any _ va vb a b K M w h h' ha hb hK).mono (fun _ _ ⟨_, he, hb, h⟩ => RBPost.mk he hb (h.mono (fun b hb => by omega)))
theorem rb_div (va vb : Value) (a b : Rat) (K M : Nat) (w : World) (h : RB w va a) (h' : RB w vb b) (hb0 : b ≠ 0) (ha : Sz K a) (hb : Sz M b) (hK : K + M ≤ 800000) : Calls Tryz.prog 66 #[va, vb] w (RBPost w (a / b)) :=
  (ratioDiv_any _ va vb a b K M w h h' hb0 ha hb hK).mono (fun _ _ ⟨_, he, hb, h⟩ => RBPost.mk he hb (h.mono (fun b hb => by omega)))
theorem rb_cmp (va vb : Value) (a b : Rat) (K M : Nat) (w : World) (h : RB w va a) (h' : RB w vb b) (ha : Sz K a) (hb : Sz M b) (hK : K + M ≤ 800000) : Calls Tryz.prog 43 #[va, vb] w fun e' w' => e' = .returned (.int .i64 (a.num * b.den - b.num * a.den).sign) ∧ Below w.heap.size w w' :=
  ratioCmp_any _ va vb a b K M w h h' ha hb hK
theorem rb_sign (v : Value) (q : Rat) (w : World) (h : RB w v q) : Calls Tryz.prog 48 #[v] w fun e' w' => e' = .returned (.int .i64 q.num.sign) ∧ Below w.heap.size w w' := ratioSign_any _ v q w h
theorem rb_frac (v : Value) (q : Rat) (w : World) (h : RB w v q) :
    Calls Tryz.prog 45 #[v] w fun e' w' => e' = .returned (.tuple #[.agg #[.int .i64 (if smallQ q = true then q.num else 0), .int .i64 (if smallQ q = true then (q.den : Int) else 0)], .bool (smallQ q)]) ∧ Below w.heap.size w w' := by
  refine (ratioFrac_any _ v q w h).mono ?_
  rintro e' w' ⟨rfl, hb⟩
  refine ⟨?_, hb⟩
  cases smallQ q <;> rfl
theorem rb_zero (w : World) : Calls Tryz.prog 49 #[] w (RBPost w 0) :=
  (zero_any w).mono (fun _ _ ⟨_, he, hb, h⟩ => RBPost.mk he hb h)
/-- A quotient is stored into a block that its digits do not lie in. -/
theorem RB.put {w0 w : World} {X : Nat} {s t : Int} {a b : Option Addr} {n c m d : Nat} {q : Rat} (h : RatioR (fun b => w0.heap.size ≤ b) w (.agg #[.int .i64 s, .slice a n c, .int .i64 t, .slice b m d]) q) (hX : X < w0.heap.size) :
    RB ((((w.setCell ⟨X, 0, none⟩ (.int .i64 s)).setCell ⟨X, 1, none⟩ (.slice a n c)).setCell ⟨X, 2, none⟩ (.int .i64 t)).setCell ⟨X, 3, none⟩ (.slice b m d)) (.agg #[.int .i64 s, .slice a n c, .int .i64 t, .slice b m d]) q := by
  refine RatioR.mono (p := fun b => w0.heap.size ≤ b ∧ b < w.heap.size) (RatioR.kept (w := w) h.here (by simp) (fun b hb => ?_)) (fun b hb => by simpa using hb.2)
  have : b ≠ X := by omega
  rw [Go.Deep.blk_setCell_other _ _ _ _ (by simpa using this), Go.Deep.blk_setCell_other _ _ _ _ (by simpa using this), Go.Deep.blk_setCell_other _ _ _ _ (by simpa using this), Go.Deep.blk_setCell_other _ _ _ _ (by simpa using this)]
theorem RB.put2 {p : Nat → Prop} {w : World} {X : Nat} {s t : Int} {a b : Option Addr} {n c m d : Nat} {q : Rat} (h : RatioR p w (.agg #[.int .i64 s, .slice a n c, .int .i64 t, .slice b m d]) q) (hne : ∀ b, p b → b ≠ X) :
    RB ((((w.setCell ⟨X, 0, none⟩ (.int .i64 s)).setCell ⟨X, 1, none⟩ (.slice a n c)).setCell ⟨X, 2, none⟩ (.int .i64 t)).setCell ⟨X, 3, none⟩ (.slice b m d)) (.agg #[.int .i64 s, .slice a n c, .int .i64 t, .slice b m d]) q := by
  refine RatioR.mono (p := fun b => p b ∧ b < w.heap.size) (RatioR.kept (w := w) h.here (by simp) (fun b hb => ?_)) (fun b hb => by simpa using hb.2)
  have : b ≠ X := hne b hb.1
  rw [Go.Deep.blk_setCell_other _ _ _ _ (by simpa using this), Go.Deep.blk_setCell_other _ _ _ _ (by simpa using this), Go.Deep.blk_setCell_other _ _ _ _ (by simpa using this), Go.Deep.blk_setCell_other _ _ _ _ (by simpa using this)]
end Go.Proofs.YtbjgklifmillgaaGreat
