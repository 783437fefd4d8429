import Derived.Deep.Heap
import Derived.OneCell
import Derived.Test.YtbjgklifmillgaaMFr
import Derived.Test.YtbjgklifmillgaaMLb
import Derived.Test.YtbjgklifmillgaaSolve
/- A block that is known whole: its cells, and what a store leaves of it. -/
namespace Go.Proofs.Ytbjgklifmillgaa
open Go.RowKit
set_option linter.unusedVariables false

theorem blk_set {w : World} {b : Nat} {t : TypeId} {cs : Array Value} (h : w.heap[b]? = some (.cells cs t)) (i : Nat) (v : Value) : (w.setCell ⟨b, i, none⟩ v).heap[b]? = some (.cells (cs.setIfInBounds i v) t) := by
  simp [World.setCell, Array.getElem?_modify, h]
theorem blk_lt {w : World} {b : Nat} {o : Obj} (h : w.heap[b]? = some o) : b < w.heap.size := (Array.getElem?_eq_some_iff.1 h).1
theorem blk_cell {w : World} {b : Nat} {t : TypeId} {cs : Array Value} (h : w.heap[b]? = some (.cells cs t)) {i : Nat} {v : Value} (hv : cs[i]? = some v) : w.cell? ⟨b, i, none⟩ = some v := (cell_of_row w b i cs t _ h).trans hv
theorem blk_fz {w : World} {b : Nat} {t : TypeId} {cs : Array Value} (h : w.heap[b]? = some (.cells cs t)) (i : Nat) : w.frozen? ⟨b, i, none⟩ = false := frozen_of_row w b i cs t h
theorem blk_below {w w' : World} {b : Nat} {o : Obj} (h : w.heap[b]? = some o) (hb : Below w.heap.size w w') : w'.heap[b]? = some o := (hb.block b (blk_lt h)).trans h
end Go.Proofs.Ytbjgklifmillgaa

/- The voltages of nodes as quotients. -/
namespace Go.Proofs.Ytbjgklifmillgaa
open Go.RowKit
set_option linter.unusedVariables false

/-- A node's voltage as a quotient. -/
def vq (s e : List Int) (L j : Nat) : Rat := ((nu s e L j : Int) : Rat) / ((dd s e L L : Int) : Rat)
theorem Lad.szv {s e : List Int} {g : Bool} {n L : Nat} (h : Lad s e g n L) {j : Nat} (hj : j ≤ n) : Sz 2 (vq s e L j) := by
  have hb := nums_bd s e n L h.bs h.be (by have := h.Ln; have := h.ls; omega) (nu s e L j) (by
    rw [← nums_nu s e n L j hj]
    exact getD_mem (by simp [numsOf]; omega))
  have hd := (dd_bd6 s e L (fun x hx => by have := h.bs x hx; omega) h.be L (by have := h.Ln; have := h.n6; omega)).2
  unfold vq
  rw [← Rat.divInt_eq_div]
  exact sz_frac (by simp only [pw]; omega) h.D (by simp only [pw]; omega)
theorem vq_sub (s e : List Int) (L i j : Nat) : vq s e L i - vq s e L j = ((nu s e L i - nu s e L j : Int) : Rat) / ((dd s e L L : Int) : Rat) := by
  unfold vq
  rw [Rat.intCast_sub]
  grind
theorem Lad.fqv {s e : List Int} {g : Bool} {n L : Nat} (h : Lad s e g n L) (j : Nat) : fq (vq s e L j) = low (nu s e L j) (dd s e L L) := fq_low _ _ h.D
theorem Lad.fqd {s e : List Int} {g : Bool} {n L : Nat} (h : Lad s e g n L) (i j : Nat) : fq (vq s e L i - vq s e L j) = low (nu s e L i - nu s e L j) (dd s e L L) := by
  rw [vq_sub]; exact fq_low _ _ h.D
/-- An entry of a slice of ratios. -/
theorem SlN.at {w : World} {b o : Nat} {ys : List Value} (hc : ∀ i u, ys[i]? = some u → w.cell? ⟨b, o + i, none⟩ = some u) {p : Nat → Prop} {j : Nat} {q : Rat} (he : EntL p w ys j q) : ∃ (s : Int) (a : Option Addr) (n c : Nat) (t : Int) (a2 : Option Addr) (n2 c2 : Nat),
    w.cell? ⟨b, o + j * 4, none⟩ = some (.int .i64 s) ∧ w.cell? ⟨b, o + j * 4 + 1, none⟩ = some (.slice a n c) ∧ w.cell? ⟨b, o + j * 4 + 2, none⟩ = some (.int .i64 t) ∧ w.cell? ⟨b, o + j * 4 + 3, none⟩ = some (.slice a2 n2 c2)
    ∧ RatioR p w (.agg #[.int .i64 s, .slice a n c, .int .i64 t, .slice a2 n2 c2]) q := by
  obtain ⟨s, a, n, c, t, a2, n2, c2, e0, e1, e2, e3, hr⟩ := he
  rw [Nat.mul_comm j 4]
  exact ⟨s, a, n, c, t, a2, n2, c2, hc _ _ e0, hc _ _ e1, hc _ _ e2, hc _ _ e3, hr⟩
end Go.Proofs.Ytbjgklifmillgaa
