import Derived.Test.YtbjgklifmillgaaPkPlain
import Derived.Test.YtbjgklifmillgaaRStep
import Derived.Test.YtbjgklifmillgaaRStep2
import Derived.Test.YtbjgklifmillgaaStep1
/- Steps that hand out new rows; worlds that differ in two rows. -/
namespace Go.Proofs.Ytbjgklifmillgaa
open Go.RowKit
set_option linter.unusedVariables false

/-- What a step hands out: nothing, or new rows. -/
def SPost2 (y f b : List Int) (s : Int) (e : Bool) (n : Nat) (w : World) (e' : Ending) (w' : World) : Prop :=
  Below w.heap.size w w' ∧ ((pE y f b s e ≠ 0 ∧ e' = .returned (.tuple #[.agg #[.slice none 0 0, .slice none 0 0], .slice none 0 0, .int .i64 (pE y f b s e)])) ∨
    (pE y f b s e = 0 ∧ ∃ g1 g2 av cv, e' = .returned (.tuple #[.agg #[.slice (some ⟨g1, 0, none⟩) n n, .slice (some ⟨g2, 0, none⟩) n n], .slice (some ⟨av, 0, none⟩) (n + 1) cv, .int .i64 0]) ∧
      w'.ownsRow w.heap.size 3 1 (.slice (some ⟨g1, 0, none⟩) n n) n (icells (outF y f b s)) ∧ w'.ownsRow w.heap.size 3 1 (.slice (some ⟨g2, 0, none⟩) n n) n (icells (outB y f b e)) ∧ w'.ownsRow w.heap.size 3 1 (.slice (some ⟨av, 0, none⟩) (n + 1) cv) (n + 1) (icells (outV y f b s e))))
theorem owns_addr {w : World} {base n c : Nat} {e : TypeId} {a : Option Addr} {xs : List Value} (h : w.ownsRow base e 1 (.slice a (n + 1) c) (n + 1) xs) : ∃ g, a = some ⟨g, 0, none⟩ := by
  rcases h.2 with ⟨h', _⟩ | ⟨g, cap, cur, h', _⟩
  · simp at h'
  · simp only [Value.slice.injEq] at h'
    exact ⟨g, h'.1⟩
theorem spost2_of {y f b : List Int} {s : Int} {e : Bool} {n : Nat} {w : World} {e' : Ending} {w' : World} (h0 : stErr y f b = 0) (hs : wi s (-1000000) 1000000 = true) (h : StepPost2 y f b s e n w e' w') : SPost2 y f b s e n w e' w' := by
  have h1 : firstErr [stErr y f b, unl (wi s (-1000000) 1000000) 2] = 0 := by rw [h0, hs]; rfl
  refine ⟨h.1, ?_⟩
  rcases h.2 with ⟨h2, rfl⟩ | ⟨h2, g1, g2, av, cv, rfl, hF, hB, hV⟩
  · have hE : pE y f b s e = 22 := by unfold pE; rw [if_pos h1, if_neg h2]
    exact .inl ⟨by rw [hE]; omega, by rw [hE]⟩
  · have hE : pE y f b s e = 0 := by unfold pE; rw [if_pos h1, if_pos h2]
    obtain ⟨g, rfl⟩ := owns_addr hV
    exact .inr ⟨hE, g1, g2, g, cv, rfl, hF, hB, hV⟩
theorem step_p (y f b : List Int) (s : Int) (a a1 a2 : Option Addr) (n c c1 c2 : Nat) (e : Bool) (w : World) (hy : IntsR w a n y) (hf : IntsR w a1 n f) (hb : IntsR w a2 n b) (h0 : stErr y f b = 0) (hn : n ≤ 100) :
    Calls Try.prog 27 #[.agg #[.slice a n c, .bool e], .agg #[.slice a1 n c1, .slice a2 n c2], .int .i64 s] w (SPost2 y f b s e n w) := by
  by_cases hs : wi s (-1000000) 1000000 = true
  · exact (step_main2 y f b s a a1 a2 n c n c1 n c2 e w hy hf hb h0 hs).mono fun _ _ h => spost2_of h0 hs h
  · have hs' : wi s (-1000000) 1000000 = false := by simpa using hs
    have h1 : firstErr [stErr y f b, unl (wi s (-1000000) 1000000) 2] = 2 := by rw [h0, hs']; rfl
    refine (step_bad y f b s a a1 a2 n c n c1 n c2 e w hy hf hb hn hn (by rw [h1]; omega)).mono ?_
    rintro e' w' ⟨rfl, hb'⟩
    have hE : pE y f b s e = 2 := by unfold pE; rw [if_neg (by rw [h1]; omega), h1]
    exact ⟨hb', .inl ⟨by rw [hE]; omega, by rw [hE, h1]⟩⟩
/-- Worlds that differ in two blocks alone. -/
structure Two (g1 g2 : Nat) (w w' : World) : Prop where
  os : w'.os = w.os
  tape : w'.tape = w.tape
  output : w'.output = w.output
  size : w'.heap.size = w.heap.size
  block : ∀ k, k ≠ g1 → k ≠ g2 → w'.heap[k]? = w.heap[k]?
theorem Two.refl (g1 g2 : Nat) (w : World) : Two g1 g2 w w := ⟨rfl, rfl, rfl, rfl, fun _ _ _ => rfl⟩
theorem Two.drewN {g1 g2 : Nat} {w w' : World} (h : Two g1 g2 w w') (n : Nat) : Two g1 g2 w (w'.drewN n) := ⟨h.os, h.tape, h.output, h.size, h.block⟩
theorem Two.setCell {g1 g2 : Nat} {w w' : World} (h : Two g1 g2 w w') {a : Addr} (ha : a.block = g1 ∨ a.block = g2) (u : Value) : Two g1 g2 w (w'.setCell a u) :=
  ⟨h.os, h.tape, h.output, by simp [h.size], fun k h1 h2 => by rw [Below.heap_setCell _ _ _ _ (by omega)]; exact h.block k h1 h2⟩
theorem Two.cell {g1 g2 : Nat} {w w' : World} (h : Two g1 g2 w w') (q o : Nat) (h1 : q ≠ g1) (h2 : q ≠ g2) : w'.cell? ⟨q, o, none⟩ = w.cell? ⟨q, o, none⟩ := by
  unfold World.cell?; rw [h.block q h1 h2]
theorem Two.frozen {g1 g2 : Nat} {w w' : World} (h : Two g1 g2 w w') (q o : Nat) (h1 : q ≠ g1) (h2 : q ≠ g2) : w'.frozen? ⟨q, o, none⟩ = w.frozen? ⟨q, o, none⟩ := by
  unfold World.frozen?; rw [h.block q h1 h2]
theorem Two.below {g1 g2 B : Nat} {w w' : World} (h : Two g1 g2 w w') (h1 : B ≤ g1) (h2 : B ≤ g2) : Below B w w' :=
  ⟨h.os, h.tape, h.output, by rw [h.size]; exact Nat.le_refl _, fun k hk => h.block k (by omega) (by omega)⟩
theorem Two.owns {g1 g2 base g n c sz : Nat} {e : TypeId} {w w' : World} {xs : List Value} (h : Two g1 g2 w w') (ho : w.ownsRow base e sz (.slice (some ⟨g, 0, none⟩) n c) n xs) (h1 : g ≠ g1) (h2 : g ≠ g2) : w'.ownsRow base e sz (.slice (some ⟨g, 0, none⟩) n c) n xs := by
  refine ⟨ho.1, ?_⟩
  rcases ho.2 with ⟨h3, h4⟩ | ⟨k, cap, cur, hv, hk, hh, r⟩
  · exact Or.inl ⟨h3, h4⟩
  · simp only [Value.slice.injEq, Option.some.injEq, Addr.mk.injEq, and_true, true_and] at hv
    obtain ⟨rfl, rfl⟩ := hv
    exact Or.inr ⟨g, c, cur, rfl, hk, by rw [h.block g h1 h2]; exact hh, r⟩
/-- What the peaks hand out. -/
def PPost (y : List Int) (e : Bool) (src : List Int) (w : World) (e' : Ending) (w' : World) : Prop :=
  Below w.heap.size w w' ∧ ∃ aN nN cN aG nG cG, e' = .returned (.tuple #[.agg #[.slice aN nN cN, .slice aG nG cG], .int .i64 (pkAll y e src).1]) ∧ IntsR w' aN nN (pkAll y e src).2.1 ∧ IntsR w' aG nG (pkAll y e src).2.2
end Go.Proofs.Ytbjgklifmillgaa
