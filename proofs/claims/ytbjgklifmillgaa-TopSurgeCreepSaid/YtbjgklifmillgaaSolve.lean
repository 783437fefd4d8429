import Derived.Deep.CutRange
import Derived.Test.YtbjgklifmillgaaMSch
import Derived.Test.YtbjgklifmillgaaMSol
/- Linear equations over ratios: Solve. -/
namespace Go.Proofs.Ytbjgklifmillgaa
open Go.RowKit
set_option linter.unusedVariables false

/-- A slice in a block from lo on. -/
def SlN (lo : Nat) (w : World) (a : Option Addr) (n sz : Nat) (xs : List Value) : Prop := SlR w a n sz xs ∧ ∀ b o, a = some ⟨b, o, none⟩ → lo ≤ b
theorem SlN.of_owns {w : World} {base : Nat} {e : TypeId} {sz n c : Nat} {a : Option Addr} {xs : List Value} (h : w.ownsRow base e sz (.slice a n c) n xs) {lo : Nat} (hlo : lo ≤ base) : SlN lo w a n sz xs := by
  refine ⟨SlR.of_owns h, fun b o hb => ?_⟩
  rcases h.2 with ⟨hv, _⟩ | ⟨g, cap, cur, hv, hbase, _⟩
  · simp only [Value.slice.injEq] at hv
    rw [hv.1] at hb; cases hb
  · simp only [Value.slice.injEq] at hv
    rw [hv.1] at hb
    simp only [Option.some.injEq, Addr.mk.injEq] at hb
    omega
theorem SlN.mono {lo lo' : Nat} {w : World} {a : Option Addr} {n sz : Nat} {xs : List Value} (h : SlN lo w a n sz xs) (hl : lo' ≤ lo) : SlN lo' w a n sz xs := ⟨h.1, fun b o hb => Nat.le_trans hl (h.2 b o hb)⟩
theorem SlN.addr {lo : Nat} {w : World} {a : Option Addr} {n sz : Nat} {xs : List Value} (h : SlN lo w a n sz xs) (hn : 0 < n) : ∃ b o, a = some ⟨b, o, none⟩ ∧ lo ≤ b ∧ b < w.heap.size ∧ ∀ i u, xs[i]? = some u → w.cell? ⟨b, o + i, none⟩ = some u := by
  obtain ⟨b, o, h1, h2, h3⟩ := h.1.addr hn
  exact ⟨b, o, h1, h.2 b o h1, h2, h3⟩

end Go.Proofs.Ytbjgklifmillgaa
