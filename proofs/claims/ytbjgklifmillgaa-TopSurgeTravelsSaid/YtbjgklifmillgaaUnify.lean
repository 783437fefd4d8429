import Derived.Test.YtbjgklifmillgaaRStep
import Derived.Test.YtbjgklifmillgaaRStep2
import Derived.Test.YtbjgklifmillgaaStep1
/- One post for each function of lines and states. -/
namespace Go.Proofs.Ytbjgklifmillgaa
open Go.RowKit
set_option linter.unusedVariables false

/-- A step's error, waves and voltages. -/
def srE (y f b : List Int) (s : Int) (e : Bool) : Int :=
  if firstErr [stErr y f b, unl (wi s (-1000000) 1000000) 2] = 0 then (if stErr y (outF y f b s) (outB y f b e) = 0 then 0 else 22) else firstErr [stErr y f b, unl (wi s (-1000000) 1000000) 2]
def srL (y f b : List Int) (s : Int) (e : Bool) (l : List Int) : List Int := if srE y f b s e = 0 then l else []
/-- What a step hands out. -/
def SPost (y f b : List Int) (s : Int) (e : Bool) (w : World) (e' : Ending) (w' : World) : Prop :=
  Below w.heap.size w w' ∧ ∃ aF nF cF aB nB cB aV nV cV, e' = .returned (.tuple #[.agg #[.slice aF nF cF, .slice aB nB cB], .slice aV nV cV, .int .i64 (srE y f b s e)]) ∧
    IntsR w' aF nF (srL y f b s e (outF y f b s)) ∧ IntsR w' aB nB (srL y f b s e (outB y f b e)) ∧ IntsR w' aV nV (srL y f b s e (outV y f b s e))

theorem spost_of {y f b : List Int} {s : Int} {e : Bool} {n : Nat} {w : World} {e' : Ending} {w' : World} (h0 : stErr y f b = 0) (hs : wi s (-1000000) 1000000 = true) (h : StepPost y f b s e n w e' w') : SPost y f b s e w e' w' := by
  have h1 : firstErr [stErr y f b, unl (wi s (-1000000) 1000000) 2] = 0 := by rw [h0, hs]; rfl
  refine ⟨h.1, ?_⟩
  rcases h.2 with ⟨h2, rfl⟩ | ⟨h2, g1, g2, av, cv, rfl, hF, hB, hV⟩
  · have hE : srE y f b s e = 22 := by unfold srE; rw [if_pos h1, if_neg h2]
    refine ⟨none, 0, 0, none, 0, 0, none, 0, 0, by rw [hE], ?_, ?_, ?_⟩
    all_goals
      unfold srL
      rw [if_neg (by rw [hE]; omega)]
      exact IntsR.nil _ _
  · have hE : srE y f b s e = 0 := by unfold srE; rw [if_pos h1, if_pos h2]
    refine ⟨_, n, n, _, n, n, av, n + 1, cv, by rw [hE], ?_, ?_, ?_⟩
    · unfold srL; rw [if_pos hE]; exact hF
    · unfold srL; rw [if_pos hE]; exact hB
    · unfold srL; rw [if_pos hE]; exact hV
theorem step_u (y f b : List Int) (s : Int) (a a1 a2 : Option Addr) (n c n1 c1 n2 c2 : Nat) (e : Bool) (w : World) (hy : IntsR w a n y) (hf : IntsR w a1 n1 f) (hb : IntsR w a2 n2 b) (hn1 : n1 ≤ 100) (hn2 : n2 ≤ 100) :
    Calls Try.prog 27 #[.agg #[.slice a n c, .bool e], .agg #[.slice a1 n1 c1, .slice a2 n2 c2], .int .i64 s] w (SPost y f b s e w) := by
  by_cases h0 : firstErr [stErr y f b, unl (wi s (-1000000) 1000000) 2] = 0
  · have h1 : stErr y f b = 0 ∧ wi s (-1000000) 1000000 = true := by
      generalize stErr y f b = x at h0
      generalize wi s (-1000000) 1000000 = g at h0
      by_cases hx : x = 0
      · subst hx; cases g <;> simp [firstErr, unl] at h0 ⊢
      · simp [firstErr, hx] at h0
    exact (step_main y f b s a a1 a2 n c n1 c1 n2 c2 e w hy hf hb h1.1 h1.2).mono fun _ _ h => spost_of h1.1 h1.2 h
  · refine (step_bad y f b s a a1 a2 n c n1 c1 n2 c2 e w hy hf hb hn1 hn2 h0).mono ?_
    rintro e' w' ⟨rfl, hb'⟩
    have hE : srE y f b s e = firstErr [stErr y f b, unl (wi s (-1000000) 1000000) 2] := by unfold srE; rw [if_neg h0]
    refine ⟨hb', none, 0, 0, none, 0, 0, none, 0, 0, by rw [hE], ?_, ?_, ?_⟩
    all_goals
      unfold srL
      rw [if_neg (by rw [hE]; exact h0)]
      exact IntsR.nil _ _
/-- The energy, or 0. -/
def enOf (y f b : List Int) : Int := if stErr y f b = 0 then enUpto y f b y.length else 0
/-- A state without waves, or none. -/
def bgL (y : List Int) : List Int := if lineErr y = 0 then List.replicate y.length 0 else []
theorem begin_u (y : List Int) (a : Option Addr) (n c : Nat) (e : Bool) (w : World) (h : IntsR w a n y) :
    Calls Try.prog 25 #[.agg #[.slice a n c, .bool e]] w fun e' w' => ∃ a1 n1 c1 a2 n2 c2, e' = .returned (.tuple #[.agg #[.slice a1 n1 c1, .slice a2 n2 c2], .int .i64 (lineErr y)]) ∧ Below w.heap.size w w' ∧ IntsR w' a1 n1 (bgL y) ∧ IntsR w' a2 n2 (bgL y) := by
  unfold bgL
  by_cases h0 : lineErr y = 0
  · refine (sbegin_ok y a n c e w h h0).mono ?_
    rintro e' w' ⟨g1, g2, rfl, hb, h1, h2⟩
    rw [if_pos h0, h0, h.len]
    exact ⟨_, n, n, _, n, n, rfl, hb, h1, h2⟩
  · refine (sbegin_bad y a n c e w h h0).mono ?_
    rintro e' w' ⟨rfl, hb⟩
    rw [if_neg h0]
    exact ⟨_, _, _, _, _, _, rfl, hb, IntsR.nil _ _, IntsR.nil _ _⟩
end Go.Proofs.Ytbjgklifmillgaa
