import Derived.Shelf.Bits.Mul64
import Derived.Deep.CutRange
import Derived.Test.YtbjgklifmillgaaMImp
import Derived.Test.YtbjgklifmillgaaMIni
import Derived.Test.YtbjgklifmillgaaMPf
import Derived.Test.YtbjgklifmillgaaQTail
import Derived.Test.YtbjgklifmillgaaSched
import Derived.Test.YtbjgklifmillgaaSmall
/- Products modulo a number. -/
namespace Go.Proofs.Ytbjgklifmillgaa
open Go.RowKit
set_option linter.unusedVariables false

set_option maxHeartbeats 1000000 in
theorem mul64_any (x y : Nat) (hx : x < 4294967296) (hy : y < 4294967296) (w : World) :
    Calls Try.prog 157 #[.int .u64 (x : Int), .int .u64 (y : Int)] w fun e w' => e = .returned (.tuple #[.int .u64 0, .int .u64 ((x * y : Nat) : Int)]) ∧ w = w' := by
  have hm := Nat.mul_le_mul (show x ≤ 4294967295 by omega) (show y ≤ 4294967295 by omega)
  obtain ⟨m, hmm⟩ : ∃ m, m = x * y := ⟨_, rfl⟩
  rw [← hmm] at hm ⊢
  have e1 : (x : Int) * (y : Int) = (m : Int) := by rw [hmm]; simp
  have e2 : bits .and .u64 (x : Int) 4294967295 = (x : Int) := by rw [Mul64.maskN x (by omega)]; omega
  have e3 : bits .and .u64 (y : Int) 4294967295 = (y : Int) := by rw [Mul64.maskN y (by omega)]; omega
  have e4 : (x : Int) / 4294967296 = 0 := by omega
  have e5 : (y : Int) / 4294967296 = 0 := by omega
  have e6 : bits .and .u64 ((m : Int) / 4294967296) 4294967295 = (m : Int) / 4294967296 := by
    rw [show (m : Int) / 4294967296 = ((m / 4294967296 : Nat) : Int) by omega, Mul64.maskN _ (by omega)]; omega
  have e7 : (m : Int) / 4294967296 / 4294967296 = 0 := by omega
  have e8 : IntKind.u64.wrap (m : Int) = (m : Int) := Mul64.wrapN m (by omega)
  have e9 : IntKind.u64.wrap ((m : Int) / 4294967296) = (m : Int) / 4294967296 := by
    rw [show (m : Int) / 4294967296 = ((m / 4294967296 : Nat) : Int) by omega, Mul64.wrapN _ (by omega)]
  clear hmm
  go_enter Try.func157, Try.ntmps157
  go_wp2
  try simp only [e1, e2, e3, e4, e5, e6, e7, e8, e9, Int.zero_mul, Int.mul_zero, Int.zero_add, Int.add_zero, Int.zero_ediv]
  go_ret2
  exact ⟨rfl, rfl⟩
theorem modulo_eq (n p : Int) (hp : 0 < p) : (n.tmod p + p).tmod p = n % p := by
  rcases Int.le_total 0 n with h | h
  · rw [Int.tmod_eq_emod_of_nonneg h, Int.tmod_eq_emod_of_nonneg (by have := Int.emod_nonneg n (show p ≠ 0 by omega); omega), Int.add_emod_right, Int.emod_emod]
  · obtain ⟨m, rfl⟩ : ∃ m, n = -m := ⟨-n, by omega⟩
    have hm : 0 ≤ m := by omega
    have h1 : m % p < p := Int.emod_lt_of_pos m hp
    have h2 : 0 ≤ m % p := Int.emod_nonneg m (by omega)
    rw [Int.neg_tmod, Int.tmod_eq_emod_of_nonneg hm, Int.tmod_eq_emod_of_nonneg (by omega)]
    have h3 : m = p * (m / p) + m % p := (Int.mul_ediv_add_emod m p).symm
    have h4 : -m = -(m % p) + p + p * (-(m / p) - 1) := by
      have : p * (-(m / p) - 1) = -(p * (m / p)) - p := by rw [Int.mul_sub, Int.mul_neg, Int.mul_one]
      omega
    rw [h4, Int.add_mul_emod_self_left]
end Go.Proofs.Ytbjgklifmillgaa

/- Whether terms add up to 0, modulo four numbers. -/
namespace Go.Proofs.Ytbjgklifmillgaa
open Go.RowKit
set_option linter.unusedVariables false

/-- Terms as cells: a number, a fraction. -/
def tcells (l : List (Int × Int × Int)) : List Value := l.flatMap fun f => [.int .i64 f.1, .int .i64 f.2.1, .int .i64 f.2.2]
abbrev gt (l : List (Int × Int × Int)) (i : Nat) : Int × Int × Int := l.getD i (0, 0, 0)
theorem tcells_length : ∀ l : List (Int × Int × Int), (tcells l).length = l.length * 3
  | [] => rfl
  | f :: r => by have := tcells_length r; simp only [tcells, List.flatMap_cons, List.length_append, List.length_cons, List.length_nil] at *; omega
theorem tcells_get : ∀ (l : List (Int × Int × Int)) (i : Nat), i < l.length → (tcells l)[i * 3]? = some (.int .i64 (gt l i).1) ∧ (tcells l)[i * 3 + 1]? = some (.int .i64 (gt l i).2.1) ∧ (tcells l)[i * 3 + 2]? = some (.int .i64 (gt l i).2.2)
  | [], i, h => by simp at h
  | f :: r, 0, _ => by simp [tcells]
  | f :: r, i + 1, h => by
    have := tcells_get r i (by simpa using h)
    simp only [tcells, List.flatMap_cons, List.cons_append, List.nil_append] at *
    rw [show (i + 1) * 3 = i * 3 + 1 + 1 + 1 by omega]
    simpa using this
def TermsR (w : World) (a : Option Addr) (n : Nat) (l : List (Int × Int × Int)) : Prop := SlR w a n 3 (tcells l)
theorem TermsR.len {w : World} {a : Option Addr} {n : Nat} {l : List (Int × Int × Int)} (h : TermsR w a n l) : l.length = n := by
  have := h.1; rw [tcells_length] at this; omega
theorem TermsR.below {w w' : World} {a : Option Addr} {n : Nat} {l : List (Int × Int × Int)} (h : TermsR w a n l) (hb : Below w.heap.size w w') : TermsR w' a n l := SlR.below h hb
theorem TermsR.addr {w : World} {a : Option Addr} {n : Nat} {l : List (Int × Int × Int)} (h : TermsR w a n l) (hn : 0 < n) :
    ∃ b o, a = some ⟨b, o, none⟩ ∧ b < w.heap.size ∧ ∀ i, i < n → w.cell? ⟨b, o + i * 3, none⟩ = some (.int .i64 (gt l i).1) ∧ w.cell? ⟨b, o + i * 3 + 1, none⟩ = some (.int .i64 (gt l i).2.1) ∧ w.cell? ⟨b, o + i * 3 + 2, none⟩ = some (.int .i64 (gt l i).2.2) := by
  obtain ⟨b, o, ha, hlt, hc⟩ := h.2.2 hn
  refine ⟨b, o, ha, hlt, fun i hi => ?_⟩
  have := tcells_get l i (by rw [h.len]; exact hi)
  exact ⟨hc _ _ this.1, by have := hc _ _ this.2.1; rwa [← Nat.add_assoc] at this, by have := hc _ _ this.2.2; rwa [← Nat.add_assoc] at this⟩

/-- A term times the other denominators up to one. -/
def tT (l : List (Int × Int × Int)) (i : Nat) : Nat → Int
  | 0 => (gt l i).1 * (gt l i).2.1
  | m + 1 => if m = i then tT l i m else tT l i m * (gt l m).2.2
/-- The sum of the first terms. -/
def tS (l : List (Int × Int × Int)) : Nat → Int
  | 0 => 0
  | i + 1 => tS l i + tT l i l.length
def pm (k : Nat) : Nat := [4294967291, 4294967279, 4294967231, 4294967197].getD k 1
theorem pm_pos (k : Nat) : 0 < pm k ∧ pm k ≤ 4294967296 := by
  rcases k with _ | _ | _ | _ | k <;> simp [pm]
def zUpto (l : List (Int × Int × Int)) : Nat → Bool
  | 0 => true
  | k + 1 => zUpto l k && decide (tS l l.length % (pm k : Int) = 0)
theorem zUpto_false (l : List (Int × Int × Int)) : ∀ (m k : Nat), zUpto l k = false → zUpto l (k + m) = false
  | 0, k, h => h
  | m + 1, k, h => by
    rw [show k + (m + 1) = (k + m) + 1 by omega, zUpto, zUpto_false l m k h]; rfl

theorem mod_mul3 (a b : Int) (p : Nat) (hp : 0 < p) : (((a % (p : Int)).toNat * (b % (p : Int)).toNat % p : Nat) : Int) = (a * b) % (p : Int) := by
  have h1 := Int.emod_nonneg a (show (p : Int) ≠ 0 by omega)
  have h2 := Int.emod_nonneg b (show (p : Int) ≠ 0 by omega)
  rw [Int.natCast_emod, Int.natCast_mul, Int.toNat_of_nonneg h1, Int.toNat_of_nonneg h2, ← Int.mul_emod]
theorem mod_mul2 (a : Int) (d p : Nat) (hp : 0 < p) : (((a % (p : Int)).toNat * d % p : Nat) : Int) = (a * (d : Int)) % (p : Int) := by
  have h1 := Int.emod_nonneg a (show (p : Int) ≠ 0 by omega)
  rw [Int.natCast_emod, Int.natCast_mul, Int.toNat_of_nonneg h1, Int.mul_emod, Int.emod_emod, ← Int.mul_emod]
theorem mod_lt {a : Int} {p : Nat} (h0 : 0 < p) (hp : p ≤ 4294967296) : 0 ≤ a % (p : Int) ∧ a % (p : Int) < p ∧ (a % (p : Int)).toNat < 4294967296 := by
  have h1 := Int.emod_nonneg a (show (p : Int) ≠ 0 by omega)
  have h2 := Int.emod_lt_of_pos a (show (0 : Int) < (p : Int) by omega)
  refine ⟨h1, h2, by omega⟩
end Go.Proofs.Ytbjgklifmillgaa

/- Whether a node has its voltage, or its equation. -/
namespace Go.Proofs.Ytbjgklifmillgaa
open Go.RowKit
set_option linter.unusedVariables false

abbrev g0' (l : List Int) (i : Nat) : Int := l.getD i 0
/-- The terms of a node's equation. -/
def tms (s e : List Int) (u : List (Int × Int)) (n j : Nat) : List (Int × Int × Int) :=
  [(ownOf s e (j - 1), gp u j), (-(g0' s (j - 1)), gp u (j - 1))] ++ if j < n then [(-(g0' s j), gp u (j + 1))] else []
def hold (s e : List Int) (u : List (Int × Int)) (g : Bool) (n j : Nat) : Bool :=
  if j = 0 then ((gp u 0).1 == 1 && (gp u 0).2 == 1) else if lastOf n g < j then ((gp u j).1 == 0 && (gp u j).2 == 1) else zUpto (tms s e u n j) 4
end Go.Proofs.Ytbjgklifmillgaa
