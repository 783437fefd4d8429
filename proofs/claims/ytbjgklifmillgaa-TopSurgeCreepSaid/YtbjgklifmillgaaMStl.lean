import Derived.Test.YtbjgklifmillgaaMLb
import Derived.Test.YtbjgklifmillgaaMRf
import Derived.Test.YtbjgklifmillgaaSched
/- The energy of a state. -/
namespace Go.Proofs.Ytbjgklifmillgaa
open Go.RowKit
set_option linter.unusedVariables false

end Go.Proofs.Ytbjgklifmillgaa

/- What a step computes: plain lists. -/
namespace Go.Proofs.Ytbjgklifmillgaa

/-- Getting an element. -/
abbrev g0 (l : List Int) (i : Nat) : Int := l.getD i 0
def sB (y f b : List Int) (i : Nat) : Int := (g0 f i * (g0 y i - g0 y (i + 1)) + 2 * g0 b (i + 1) * g0 y (i + 1)).tdiv (g0 y i + g0 y (i + 1))
def sF (y f b : List Int) (i : Nat) : Int := (g0 b (i + 1) * (g0 y (i + 1) - g0 y i) + 2 * g0 f i * g0 y i).tdiv (g0 y i + g0 y (i + 1))
def sV (y f b : List Int) (i : Nat) : Int := (2 * (g0 f i * g0 y i + g0 b (i + 1) * g0 y (i + 1))).tdiv (g0 y i + g0 y (i + 1))
/-- The lists after k junctions; n: the number of sections, m = n - 1. -/
def fwdAt (y f b : List Int) (s : Int) (m k : Nat) : List Int := (s - g0 b 0) :: ((List.range k).map (sF y f b) ++ List.replicate (m - k) 0)
def bckAt (y f b : List Int) (m k : Nat) : List Int := (List.range k).map (sB y f b) ++ List.replicate (m + 1 - k) 0
def volAt (y f b : List Int) (s : Int) (k : Nat) : List Int := s :: (List.range k).map (sV y f b)
def outF (y f b : List Int) (s : Int) : List Int := (s - g0 b 0) :: (List.range (y.length - 1)).map (sF y f b)
def outB (y f b : List Int) (e : Bool) : List Int := (List.range (y.length - 1)).map (sB y f b) ++ [if e then -g0 f (y.length - 1) else g0 f (y.length - 1)]
def outV (y f b : List Int) (s : Int) (e : Bool) : List Int := s :: ((List.range (y.length - 1)).map (sV y f b) ++ [if e then 0 else 2 * g0 f (y.length - 1)])

theorem set_mid {α : Type} (a : List α) (x y : α) (r : List α) (k : Nat) (h : a.length = k) : (a ++ x :: r).set k y = a ++ y :: r := by
  subst h; simp
theorem fwd_len (y f b : List Int) (s : Int) (m k : Nat) (h : k ≤ m) : (fwdAt y f b s m k).length = m + 1 := by simp [fwdAt]; omega
theorem bck_len (y f b : List Int) (m k : Nat) (h : k ≤ m + 1) : (bckAt y f b m k).length = m + 1 := by simp [bckAt]; omega
theorem vol_len (y f b : List Int) (s : Int) (k : Nat) : (volAt y f b s k).length = k + 1 := by simp [volAt]
theorem fwd_set (y f b : List Int) (s : Int) (m k : Nat) (h : k < m) : (fwdAt y f b s m k).set (k + 1) (sF y f b k) = fwdAt y f b s m (k + 1) := by
  unfold fwdAt
  rw [show m - k = (m - (k + 1)) + 1 by omega, List.replicate_succ, List.set_cons_succ, set_mid _ _ _ _ k (by simp), List.range_succ, List.map_append, List.append_assoc]
  rfl
theorem bck_set (y f b : List Int) (m k : Nat) (h : k < m) : (bckAt y f b m k).set k (sB y f b k) = bckAt y f b m (k + 1) := by
  unfold bckAt
  rw [show m + 1 - k = (m + 1 - (k + 1)) + 1 by omega, List.replicate_succ, set_mid _ _ _ _ k (by simp), List.range_succ, List.map_append, List.append_assoc]
  rfl
theorem bck_end (y f b : List Int) (m : Nat) (x : Int) : (bckAt y f b m m).set m x = (List.range m).map (sB y f b) ++ [x] := by
  unfold bckAt
  rw [show m + 1 - m = 0 + 1 by omega, List.replicate_succ, set_mid _ _ _ _ m (by simp)]
  rfl
theorem vol_snoc (y f b : List Int) (s : Int) (k : Nat) : volAt y f b s k ++ [sV y f b k] = volAt y f b s (k + 1) := by
  simp [volAt, List.range_succ]
theorem fwd_end (y f b : List Int) (s : Int) (m : Nat) : fwdAt y f b s m m = (s - g0 b 0) :: (List.range m).map (sF y f b) := by simp [fwdAt]
theorem fwd_start (y f b : List Int) (s : Int) (m : Nat) : (List.replicate (m + 1) (0 : Int)).set 0 (s - g0 b 0) = fwdAt y f b s m 0 := by
  simp [fwdAt, List.replicate_succ]
theorem bck_start (y f b : List Int) (m : Nat) : List.replicate (m + 1) (0 : Int) = bckAt y f b m 0 := by simp [bckAt]
theorem icells_set (l : List Int) (k : Nat) (x : Int) : (l.map (fun n => n)).set k x = l.set k x := by simp
end Go.Proofs.Ytbjgklifmillgaa

/- Plain parts that both steps use. -/
namespace Go.Proofs.Ytbjgklifmillgaa
open Go.RowKit
set_option linter.unusedVariables false

theorem owns_heap {w w' : World} {base n sz : Nat} {e : TypeId} {v : Value} {xs : List Value} (h : w.ownsRow base e sz v n xs) (hh : w'.heap = w.heap) : w'.ownsRow base e sz v n xs := by
  unfold World.ownsRow at *; rw [hh]; exact h
theorem calls_drew_gen {P : Program} {f : FuncId} {args : Array Value} {w : World} {k n : Nat} {v : Value}
    (h : Calls P f args (w.drewN (k + n)) fun e w' => e = .returned v ∧ w.drewN (k + n) = w') : Calls P f args (w.drewN (k + n)) fun e w'' => e = .returned v ∧ ∃ m, w'' = w.drewN (k + m) :=
  h.mono fun _ _ ⟨he, hm⟩ => ⟨he, n, hm.symm⟩
theorem two_new (w7 : World) (a b c : Value) (t t2 : TypeId) : ∃ w8, w8 = (w7.alloc (.cells #[a, b] t)).alloc (.cells #[c] t2) ∧ w8.cell? ⟨w7.heap.size, 0, none⟩ = some a ∧ w8.cell? ⟨w7.heap.size, 1, none⟩ = some b ∧ Below w7.heap.size w7 w8 ∧ w7.heap.size + 1 < w8.heap.size ∧
    w8.ownsRow (w7.heap.size + 1) t2 1 (.slice (some ⟨w7.heap.size + 1, 0, none⟩) 1 1) 1 [c] := by
  refine ⟨_, rfl, by go_simp, by go_simp, by (repeat' (first | (with_reducible exact Below.refl _ _) | (with_reducible assumption) | (with_reducible refine Below.drewN ?_ _) | (with_reducible refine Below.alloc ?_ ?_ _) | (with_reducible refine Below.drew ?_) | (with_reducible refine Below.setCell ?_ ?_ _) | (with_reducible refine Below.step (by assumption) ?_ ?_) | (with_reducible exact And.left (by assumption)) | go_size)), by simp, ?_⟩
  exact owns_lit (cs := #[c]) (by simp) (Nat.le_refl _) (by omega) rfl

theorem icells_set' (l : List Int) (k : Nat) (x : Int) : (icells l).set k (.int .i64 x) = icells (l.set k x) := by simp [icells, List.map_set]

/-- What a step hands out. -/
def StepPost (y f b : List Int) (s : Int) (e : Bool) (n : Nat) (w : World) (e' : Ending) (w' : World) : Prop :=
  Below w.heap.size w w' ∧ ((stErr y (outF y f b s) (outB y f b e) ≠ 0 ∧ e' = .returned (.tuple #[.agg #[.slice none 0 0, .slice none 0 0], .slice none 0 0, .int .i64 22])) ∨
    (stErr y (outF y f b s) (outB y f b e) = 0 ∧ ∃ g1 g2 av cv, e' = .returned (.tuple #[.agg #[.slice (some ⟨g1, 0, none⟩) n n, .slice (some ⟨g2, 0, none⟩) n n], .slice av (n + 1) cv, .int .i64 0]) ∧
      IntsR w' (some ⟨g1, 0, none⟩) n (outF y f b s) ∧ IntsR w' (some ⟨g2, 0, none⟩) n (outB y f b e) ∧ IntsR w' av (n + 1) (outV y f b s e)))

/-- The same, with rows that are new. -/
def StepPost2 (y f b : List Int) (s : Int) (e : Bool) (n : Nat) (w : World) (e' : Ending) (w' : World) : Prop :=
  Below w.heap.size w w' ∧ ((stErr y (outF y f b s) (outB y f b e) ≠ 0 ∧ e' = .returned (.tuple #[.agg #[.slice none 0 0, .slice none 0 0], .slice none 0 0, .int .i64 22])) ∨
    (stErr y (outF y f b s) (outB y f b e) = 0 ∧ ∃ g1 g2 av cv, e' = .returned (.tuple #[.agg #[.slice (some ⟨g1, 0, none⟩) n n, .slice (some ⟨g2, 0, none⟩) n n], .slice av (n + 1) cv, .int .i64 0]) ∧
      w'.ownsRow w.heap.size 3 1 (.slice (some ⟨g1, 0, none⟩) n n) n (icells (outF y f b s)) ∧ w'.ownsRow w.heap.size 3 1 (.slice (some ⟨g2, 0, none⟩) n n) n (icells (outB y f b e)) ∧ w'.ownsRow w.heap.size 3 1 (.slice av (n + 1) cv) (n + 1) (icells (outV y f b s e))))
theorem StepPost2.weak {y f b : List Int} {s : Int} {e : Bool} {n : Nat} {w : World} {e' : Ending} {w' : World} (h : StepPost2 y f b s e n w e' w') : StepPost y f b s e n w e' w' := by
  refine ⟨h.1, h.2.imp id ?_⟩
  rintro ⟨h0, g1, g2, av, cv, rfl, h1, h2, h3⟩
  exact ⟨h0, g1, g2, av, cv, rfl, SlR.of_owns h1, SlR.of_owns h2, SlR.of_owns h3⟩

theorem fin_F {y f b : List Int} {s : Int} {k : Nat} (hy : y.length = k + 1) : fwdAt y f b s k k = outF y f b s := by
  unfold outF; rw [fwd_end, hy]; rfl
theorem fin_B {y f b : List Int} {k : Nat} (e : Bool) (x : Int) (hy : y.length = k + 1) (hx : x = if e then -g0 f k else g0 f k) : (bckAt y f b k k).set k x = outB y f b e := by
  unfold outB; rw [bck_end, hy, hx]; rfl
theorem fin_V {y f b : List Int} {s : Int} {k : Nat} (e : Bool) (x : Int) (hy : y.length = k + 1) (hx : x = if e then 0 else 2 * g0 f k) : volAt y f b s k ++ [x] = outV y f b s e := by
  unfold outV volAt; rw [hy, hx]; rfl
theorem set_twice (l : List Int) (k : Nat) (x y : Int) : (l.set k x).set k y = l.set k y := by simp

end Go.Proofs.Ytbjgklifmillgaa
