/- What a step computes: plain lists. -/
import Derived.Test.YtiellefbndlkkaaPlain0
namespace Go.Proofs.Ytiellefbndlkkaa

/-- Getting an element. -/
abbrev g0 (l : List Int) (i : Nat) : Int := l.getD i 0
def sB (y f b : List Int) (i : Nat) : Int := (g0 f i * (g0 y i - g0 y (i + 1)) + 2 * g0 b (i + 1) * g0 y (i + 1)).tdiv (g0 y i + g0 y (i + 1))
def sF (y f b : List Int) (i : Nat) : Int := (g0 b (i + 1) * (g0 y (i + 1) - g0 y i) + 2 * g0 f i * g0 y i).tdiv (g0 y i + g0 y (i + 1))
def sV (y f b : List Int) (i : Nat) : Int := (2 * (g0 f i * g0 y i + g0 b (i + 1) * g0 y (i + 1))).tdiv (g0 y i + g0 y (i + 1))
/-- The lists after k junctions; n: the number of sections, m = n - 1. -/
def fwdAt (y f b : List Int) (s : Int) (m k : Nat) : List Int := (s - g0 b 0) :: ((List.range k).map (sF y f b) ++ List.replicate (m - k) 0)
def bckAt (y f b : List Int) (m k : Nat) : List Int := (List.range k).map (sB y f b) ++ List.replicate (m + 1 - k) 0
def volAt (y f b : List Int) (s : Int) (k : Nat) : List Int := s :: (List.range k).map (sV y f b)
def outF (y f b : List Int) (s : Int) : List Int := (s - g0 b 0) :: (List.range (y.length - 1)).map (sF y f b)
def outB (y f b : List Int) (e : Bool) : List Int := (List.range (y.length - 1)).map (sB y f b) ++ [if e then -g0 f (y.length - 1) else g0 f (y.length - 1)]
def outV (y f b : List Int) (s : Int) (e : Bool) : List Int := s :: ((List.range (y.length - 1)).map (sV y f b) ++ [if e then 0 else 2 * g0 f (y.length - 1)])

theorem set_mid {α : Type} (a : List α) (x y : α) (r : List α) (k : Nat) (h : a.length = k) : (a ++ x :: r).set k y = a ++ y :: r := by
  subst h; simp
theorem fwd_len (y f b : List Int) (s : Int) (m k : Nat) (h : k ≤ m) : (fwdAt y f b s m k).length = m + 1 := by simp [fwdAt]; omega
theorem bck_len (y f b : List Int) (m k : Nat) (h : k ≤ m + 1) : (bckAt y f b m k).length = m + 1 := by simp [bckAt]; omega
theorem vol_len (y f b : List Int) (s : Int) (k : Nat) : (volAt y f b s k).length = k + 1 := by simp [volAt]
theorem fwd_set (y f b : List Int) (s : Int) (m k : Nat) (h : k < m) : (fwdAt y f b s m k).set (k + 1) (sF y f b k) = fwdAt y f b s m (k + 1) := by
  unfold fwdAt
  rw [show m - k = (m - (k + 1)) + 1 by omega, List.replicate_succ, List.set_cons_succ, set_mid _ _ _ _ k (by simp), List.range_succ, List.map_append, List.append_assoc]
  rfl
theorem bck_set (y f b : List Int) (m k : Nat) (h : k < m) : (bckAt y f b m k).set k (sB y f b k) = bckAt y f b m (k + 1) := by
  unfold bckAt
  rw [show m + 1 - k = (m + 1 - (k + 1)) + 1 by omega, List.replicate_succ, set_mid _ _ _ _ k (by simp), List.range_succ, List.map_append, List.append_assoc]
  rfl
theorem bck_end (y f b : List Int) (m : Nat) (x : Int) : (bckAt y f b m m).set m x = (List.range m).map (sB y f b) ++ [x] := by
  unfold bckAt
  rw [show m + 1 - m = 0 + 1 by omega, List.replicate_succ, set_mid _ _ _ _ m (by simp)]
  rfl
theorem vol_snoc (y f b : List Int) (s : Int) (k : Nat) : volAt y f b s k ++ [sV y f b k] = volAt y f b s (k + 1) := by
  simp [volAt, List.range_succ]
theorem fwd_end (y f b : List Int) (s : Int) (m : Nat) : fwdAt y f b s m m = (s - g0 b 0) :: (List.range m).map (sF y f b) := by simp [fwdAt]
theorem fwd_start (y f b : List Int) (s : Int) (m : Nat) : (List.replicate (m + 1) (0 : Int)).set 0 (s - g0 b 0) = fwdAt y f b s m 0 := by
  simp [fwdAt, List.replicate_succ]
theorem bck_start (y f b : List Int) (m : Nat) : List.replicate (m + 1) (0 : Int) = bckAt y f b m 0 := by simp [bckAt]
theorem icells_set (l : List Int) (k : Nat) (x : Int) : (l.map (fun n => n)).set k x = l.set k x := by simp
end Go.Proofs.Ytiellefbndlkkaa
