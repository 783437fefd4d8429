import Derived.Test.YtbjgklifmillgaaAwake
import Derived.Test.YtbjgklifmillgaaMFl
import Derived.Test.YtbjgklifmillgaaMLaw
import Derived.Test.YtbjgklifmillgaaMNs
import Derived.Test.YtbjgklifmillgaaMOo
import Derived.Test.YtbjgklifmillgaaMRt
import Derived.Test.YtbjgklifmillgaaMSch
import Derived.Test.YtbjgklifmillgaaRngLib
/- Helpers of the walk of SurgeEnclosed: three rows of the call's own, a span that is one, fractions compared. -/
namespace Go.Proofs.Ytbjgklifmillgaa
open Go.RowKit
set_option linter.unusedVariables false

theorem bcmp9_any (a1 a2 b1 b2 : Int) (w : World) (h1 : -4000000000000000000 ≤ a1 * b2 ∧ a1 * b2 ≤ 4000000000000000000) (h2 : -4000000000000000000 ≤ b1 * a2 ∧ b1 * a2 ≤ 4000000000000000000) :
    Calls Try.prog 45 #[.agg #[.int .i64 a1, .int .i64 a2], .agg #[.int .i64 b1, .int .i64 b2]] w fun e' w' => e' = .returned (.int .i64 (cmpI (a1 * b2) (b1 * a2))) ∧ Below w.heap.size w w' := by
  obtain ⟨R, hR⟩ : ∃ R, R = cmpI (a1 * b2) (b1 * a2) := ⟨_, rfl⟩
  rw [← hR]
  have HR := Lib.hid hR
  clear hR
  go_enter Try.func45, Try.ntmps45
  go_wp2
  go_quiet (fail)
  go_wp2_with fail
  all_goals
    go_ret
    refine ⟨ret_int (by rw [HR.out]; unfold cmpI; (repeat' split) <;> first | rfl | omega), ?_⟩
    (repeat' (first | (with_reducible exact Below.refl _ _) | (with_reducible assumption) | (with_reducible refine Below.drewN ?_ _) | (with_reducible refine Below.alloc ?_ ?_ _) | (with_reducible refine Below.drew ?_) | (with_reducible refine Below.setCell ?_ ?_ _) | (with_reducible refine Below.step (by assumption) ?_ ?_) | (with_reducible exact And.left (by assumption)) | go_size))
theorem cmp_le {x y : Int} (h : x ≤ y) : ∃ c, cmpI x y = c ∧ c ≤ 0 := by
  unfold cmpI
  by_cases h1 : x < y
  · exact ⟨-1, by rw [if_pos h1], by omega⟩
  · exact ⟨0, by rw [if_neg h1, if_neg (by omega)], by omega⟩
theorem prod9 {a b : Int} (ha : -1000000000 ≤ a ∧ a ≤ 1000000000) (hb : 0 ≤ b ∧ b ≤ 1000000000) : -4000000000000000000 ≤ a * b ∧ a * b ≤ 4000000000000000000 :=
  mulb (a := a) (b := b) 1000000000 1000000000 4000000000000000000 ha.1 ha.2 (by omega) (by omega) (by omega)
/-- Fractions in lowest terms that are small. -/
def FrS (p : Int × Int) : Prop := 1 ≤ p.2 ∧ p.2 ≤ 1000000000 ∧ gc p.1 p.2 = 1 ∧ -1000000000 ≤ p.1 ∧ p.1 ≤ 1000000000
/-- Comparing such fractions. -/
theorem cmpS_any {p q : Int × Int} (hp : FrS p) (hq : FrS q) (h : p.1 * q.2 ≤ q.1 * p.2) : ∃ c : Int, c ≤ 0 ∧ ∀ w : World, Calls Try.prog 45 #[.agg #[.int .i64 p.1, .int .i64 p.2], .agg #[.int .i64 q.1, .int .i64 q.2]] w fun e' w' => e' = .returned (.int .i64 c) ∧ Below w.heap.size w w' := by
  obtain ⟨c, hc, h0⟩ := cmp_le h
  refine ⟨c, h0, fun w => ?_⟩
  have := bcmp9_any p.1 p.2 q.1 q.2 w (prod9 ⟨hp.2.2.2.1, hp.2.2.2.2⟩ ⟨by have := hq.1; omega, hq.2.1⟩) (prod9 ⟨hq.2.2.2.1, hq.2.2.2.2⟩ ⟨by have := hp.1; omega, hp.2.1⟩)
  rwa [hc] at this
theorem lowS_any {p : Int × Int} (hp : FrS p) (w : World) : Calls Try.prog 22 #[.agg #[.int .i64 p.1, .int .i64 p.2]] w fun e' w' => e' = .returned (.bool true) ∧ Below w.heap.size w w' := by
  obtain ⟨h1, h2, h3, h4, h5⟩ := hp
  have := isLowest_any p.1 p.2 w (by omega) (by omega) (by omega) (by omega)
  rwa [h3, show (decide (p.2 > 0) && ((1 : Int) == 1)) = true by simp; omega] at this
theorem smallS_any {p : Int × Int} (hp : FrS p) (w : World) : Calls Try.prog 35 #[.agg #[.int .i64 p.1, .int .i64 p.2]] w fun e' w' => e' = .returned (.bool true) ∧ Below w.heap.size w w' := by
  obtain ⟨h1, h2, h3, h4, h5⟩ := hp
  have := bisSmall_any p.1 p.2 w
  rwa [wi_iff.2 ⟨h4, h5⟩, wi_iff.2 ⟨h1, h2⟩, Bool.and_self] at this
theorem frS_low {a b : Int} (hb : 0 < b) (h : smallF (low a b) = true) : FrS (low a b) := by
  simp only [smallF, Bool.and_eq_true, wi_iff, decide_eq_true_eq] at h
  exact ⟨low_den' hb, h.2, low_gc a b hb, h.1.1, h.1.2⟩
theorem pk_err {s e : List (Int × Int)} {n L : Nat} {g : Bool} (X : List Int) (h : rngErr s e = 0) (hn : s.length = n) (hL : lastOf n g = L) : ladErr (pkL s X 0 n) (pkL e X 1 n) (List.replicate n 1) = 0 := by
  have l0 := rng_pk X h hn hL
  unfold ladErr
  rw [if_pos ⟨by rw [l0.ls]; exact l0.n0, by rw [l0.ls, l0.le], by rw [l0.ls]; simp⟩, if_pos (by rw [l0.ls]; exact l0.n6)]
  have : ladAll (pkL s X 0 n) (pkL e X 1 n) (List.replicate n 1) 0 = true := by
    unfold ladAll
    simp only [List.drop_zero]
    rw [List.all_eq_true]
    rintro ⟨x, y, z⟩ hx
    have h1 := (List.of_mem_zip hx).1
    have h2 := (List.of_mem_zip hx).2
    have h3 := (List.of_mem_zip h2).1
    have h4 := (List.of_mem_zip h2).2
    obtain ⟨_, rfl⟩ := List.mem_replicate.1 h4
    have h5 := l0.bs x h1
    have h6 := l0.be y h3
    simp only [ok3, Bool.and_eq_true, wi_iff]
    omega
  rw [this]; rfl
end Go.Proofs.Ytbjgklifmillgaa
