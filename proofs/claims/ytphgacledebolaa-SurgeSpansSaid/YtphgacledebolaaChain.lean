import Derived.Test.YtphgacledebolaaLadder
import Derived.Test.YtphgacledebolaaMStl
/- The chain of capacitances: its small functions. -/
namespace Go.Proofs.Ytphgacledebolaa
open Go.RowKit
set_option linter.unusedVariables false

set_option maxRecDepth 100000 in
theorem chainOf_any (a a1 a2 : Option Addr) (n c n1 c1 n2 c2 : Nat) (g : Bool) (w : World) :
    Calls Try.prog 89 #[.agg #[.slice a n c, .slice a1 n1 c1, .slice a2 n2 c2, .bool g]] w fun e' w' => e' = .returned (.agg #[.slice a n c, .slice a1 n1 c1, .bool g]) ∧ Below w.heap.size w w' := by
  go_enter Try.func89, Try.ntmps89
  go_wp2
  refine bodyPost_ret (v := .agg #[.slice a n c, .slice a1 n1 c1, .bool g]) (by simp [results, Try.results89, go_sem]) rfl ⟨rfl, by (repeat' (first | (with_reducible exact Below.refl _ _) | (with_reducible assumption) | (with_reducible refine Below.drewN ?_ _) | (with_reducible refine Below.alloc ?_ ?_ _) | (with_reducible refine Below.drew ?_) | (with_reducible refine Below.setCell ?_ ?_ _) | (with_reducible refine Below.step (by assumption) ?_ ?_) | (with_reducible exact And.left (by assumption)) | go_size))⟩

/-- The last node whose voltage is not given. -/
def lastOf (n : Nat) (g : Bool) : Int := if g then (n : Int) - 1 else n
set_option maxRecDepth 100000 in
theorem clast_any (a a1 : Option Addr) (n c n1 c1 : Nat) (g : Bool) (w : World) (hn : n ≤ 1000) :
    Calls Try.prog 128 #[.agg #[.slice a n c, .slice a1 n1 c1, .bool g]] w fun e' w' => e' = .returned (.int .i64 (lastOf n g)) ∧ Below w.heap.size w w' := by
  cases g
  · go_enter Try.func128, Try.ntmps128
    go_wp2
    go_ret
    exact ⟨rfl, by (repeat' (first | (with_reducible exact Below.refl _ _) | (with_reducible assumption) | (with_reducible refine Below.drewN ?_ _) | (with_reducible refine Below.alloc ?_ ?_ _) | (with_reducible refine Below.drew ?_) | (with_reducible refine Below.setCell ?_ ?_ _) | (with_reducible refine Below.step (by assumption) ?_ ?_) | (with_reducible exact And.left (by assumption)) | go_size))⟩
  · go_enter Try.func128, Try.ntmps128
    go_wp2
    go_ret
    exact ⟨rfl, by (repeat' (first | (with_reducible exact Below.refl _ _) | (with_reducible assumption) | (with_reducible refine Below.drewN ?_ _) | (with_reducible refine Below.alloc ?_ ?_ _) | (with_reducible refine Below.drew ?_) | (with_reducible refine Below.setCell ?_ ?_ _) | (with_reducible refine Below.step (by assumption) ?_ ?_) | (with_reducible exact And.left (by assumption)) | go_size))⟩

/-- The sum of a node's capacitances. -/
def ownOf (s e : List Int) (k : Nat) : Int := if k + 1 < s.length then s.getD k 0 + e.getD k 0 + s.getD (k + 1) 0 else s.getD k 0 + e.getD k 0
set_option maxRecDepth 100000 in
theorem own_any (s e : List Int) (a a1 : Option Addr) (n c n1 c1 k : Nat) (g : Bool) (w : World) (hs : IntsR w a n s) (he : IntsR w a1 n1 e) (hn : n1 = n) (hn6 : n ≤ 1000) (hk : k < n)
    (bs : ∀ x ∈ s, 0 ≤ x ∧ x ≤ 1000000) (be : ∀ x ∈ e, 0 ≤ x ∧ x ≤ 1000000) :
    Calls Try.prog 129 #[.agg #[.slice a n c, .slice a1 n1 c1, .bool g], .int .i64 ((k : Int) + 1)] w fun e' w' => e' = .returned (.int .i64 (ownOf s e k)) ∧ Below w.heap.size w w' := by
  subst n1
  obtain ⟨b0, o0, rfl, hb0, hc0⟩ := hs.addr (by omega)
  obtain ⟨b1, o1, rfl, hb1, hc1⟩ := he.addr (by omega)
  have hx := hc0 k hk
  have hy := hc1 k hk
  have bx := bs _ (getD_mem (l := s) (k := k) (by rw [hs.len]; exact hk))
  have by_ := be _ (getD_mem (l := e) (k := k) (by rw [he.len]; exact hk))
  have HL := Lib.hid hs.len
  have i0 : (0 : Int) ≤ (k : Int) := by omega
  have i1 : (k : Int) < (n : Int) := by omega
  by_cases h1 : k + 1 < n
  · have hz := hc0 (k + 1) h1
    have bz := bs _ (getD_mem (l := s) (k := k + 1) (by rw [hs.len]; exact h1))
    have HO := Lib.hid (show ownOf s e k = s.getD k 0 + e.getD k 0 + s.getD (k + 1) 0 by unfold ownOf; rw [if_pos (by rw [hs.len]; exact h1)])
    have i2 : (k : Int) + 1 < (n : Int) := by omega
    clear hs he hc0 hc1 bs be
    generalize s.getD k 0 = x at hx bx HO
    generalize e.getD k 0 = y at hy by_ HO
    generalize s.getD (k + 1) 0 = z at hz bz HO
    rw [HO.out]
    go_enter Try.func129, Try.ntmps129
    go_wp2
    go_quiet (fail)
    go_wp2
    go_ret
    exact ⟨rfl, by (repeat' (first | (with_reducible exact Below.refl _ _) | (with_reducible assumption) | (with_reducible refine Below.drewN ?_ _) | (with_reducible refine Below.alloc ?_ ?_ _) | (with_reducible refine Below.drew ?_) | (with_reducible refine Below.setCell ?_ ?_ _) | (with_reducible refine Below.step (by assumption) ?_ ?_) | (with_reducible exact And.left (by assumption)) | go_size))⟩
  · have HO := Lib.hid (show ownOf s e k = s.getD k 0 + e.getD k 0 by unfold ownOf; rw [if_neg (by rw [hs.len]; exact h1)])
    have i2 : ¬ ((k : Int) + 1 < (n : Int)) := by omega
    clear hs he hc0 hc1 bs be
    generalize s.getD k 0 = x at hx bx HO
    generalize e.getD k 0 = y at hy by_ HO
    rw [HO.out]
    go_enter Try.func129, Try.ntmps129
    go_wp2
    go_quiet (fail)
    go_wp2
    go_ret
    exact ⟨rfl, by (repeat' (first | (with_reducible exact Below.refl _ _) | (with_reducible assumption) | (with_reducible refine Below.drewN ?_ _) | (with_reducible refine Below.alloc ?_ ?_ _) | (with_reducible refine Below.drew ?_) | (with_reducible refine Below.setCell ?_ ?_ _) | (with_reducible refine Below.step (by assumption) ?_ ?_) | (with_reducible exact And.left (by assumption)) | go_size))⟩
end Go.Proofs.Ytphgacledebolaa
