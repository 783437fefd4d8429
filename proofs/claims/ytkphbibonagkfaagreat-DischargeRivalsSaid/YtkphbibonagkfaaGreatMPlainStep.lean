import Derived.Test.YtkphbibonagkfaaGreatMDCx
import Derived.Test.YtkphbibonagkfaaGreatMRoundTr
import Derived.Test.YtkphbibonagkfaaGreatMSched
/- What a step computes: plain lists. -/
namespace Go.Proofs.YtkphbibonagkfaaGreat

/-- Getting an element. -/
abbrev g0 (l : List Int) (i : Nat) : Int := l.getD i 0
def sB (y f b : List Int) (i : Nat) : Int := (g0 f i * (g0 y i - g0 y (i + 1)) + 2 * g0 b (i + 1) * g0 y (i + 1)).tdiv (g0 y i + g0 y (i + 1))
def sF (y f b : List Int) (i : Nat) : Int := (g0 b (i + 1) * (g0 y (i + 1) - g0 y i) + 2 * g0 f i * g0 y i).tdiv (g0 y i + g0 y (i + 1))
def sV (y f b : List Int) (i : Nat) : Int := (2 * (g0 f i * g0 y i + g0 b (i + 1) * g0 y (i + 1))).tdiv (g0 y i + g0 y (i + 1))
/-- The lists after k junctions; n: the number of sections, m = n - 1. -/
def fwdAt (y f b : List Int) (s : Int) (m k : Nat) : List Int := (s - g0 b 0) :: ((List.range k).map (sF y f b) ++ List.replicate (m - k) 0)
def bckAt (y f b : List Int) (m k : Nat) : List Int := (List.range k).map (sB y f b) ++ List.replicate (m + 1 - k) 0
def volAt (y f b : List Int) (s : Int) (k : Nat) : List Int := s :: (List.range k).map (sV y f b)
def outF (y f b : List Int) (s : Int) : List Int := (s - g0 b 0) :: (List.range (y.length - 1)).map (sF y f b)
def outB (y f b : List Int) (e : Bool) : List Int := (List.range (y.length - 1)).map (sB y f b) ++ [if e then -g0 f (y.length - 1) else g0 f (y.length - 1)]
def outV (y f b : List Int) (s : Int) (e : Bool) : List Int := s :: ((List.range (y.length - 1)).map (sV y f b) ++ [if e then 0 else 2 * g0 f (y.length - 1)])

theorem set_mid {α : Type} (a : List α) (x y : α) (r : List α) (k : Nat) (h : a.length = k) : (a ++ x :: r).set k y = a ++ y :: r := by
  subst h; simp
theorem fwd_len (y f b : List Int) (s : Int) (m k : Nat) (h : k ≤ m) : (fwdAt y f b s m k).length = m + 1 := by simp [fwdAt]; omega
theorem bck_len (y f b : List Int) (m k : Nat) (h : k ≤ m + 1) : (bckAt y f b m k).length = m + 1 := by simp [bckAt]; omega
theorem vol_len (y f b : List Int) (s : Int) (k : Nat) : (volAt y f b s k).length = k + 1 := by simp [volAt]
theorem fwd_set (y f b : List Int) (s : Int) (m k : Nat) (h : k < m) : (fwdAt y f b s m k).set (k + 1) (sF y f b k) = fwdAt y f b s m (k + 1) := by
  unfold fwdAt
  rw [show m - k = (m - (k + 1)) + 1 by omega, List.replicate_succ, List.set_cons_succ, set_mid _ _ _ _ k (by simp), List.range_succ, List.map_append, List.append_assoc]
  rfl
theorem bck_set (y f b : List Int) (m k : Nat) (h : k < m) : (bckAt y f b m k).set k (sB y f b k) = bckAt y f b m (k + 1) := by
  unfold bckAt
  rw [show m + 1 - k = (m + 1 - (k + 1)) + 1 by omega, List.replicate_succ, set_mid _ _ _ _ k (by simp), List.range_succ, List.map_append, List.append_assoc]
  rfl
theorem bck_end (y f b : List Int) (m : Nat) (x : Int) : (bckAt y f b m m).set m x = (List.range m).map (sB y f b) ++ [x] := by
  unfold bckAt
  rw [show m + 1 - m = 0 + 1 by omega, List.replicate_succ, set_mid _ _ _ _ m (by simp)]
  rfl
theorem vol_snoc (y f b : List Int) (s : Int) (k : Nat) : volAt y f b s k ++ [sV y f b k] = volAt y f b s (k + 1) := by
  simp [volAt, List.range_succ]
theorem fwd_end (y f b : List Int) (s : Int) (m : Nat) : fwdAt y f b s m m = (s - g0 b 0) :: (List.range m).map (sF y f b) := by simp [fwdAt]
theorem fwd_start (y f b : List Int) (s : Int) (m : Nat) : (List.replicate (m + 1) (0 : Int)).set 0 (s - g0 b 0) = fwdAt y f b s m 0 := by
  simp [fwdAt, List.replicate_succ]
theorem bck_start (y f b : List Int) (m : Nat) : List.replicate (m + 1) (0 : Int) = bckAt y f b m 0 := by simp [bckAt]
theorem icells_set (l : List Int) (k : Nat) (x : Int) : (l.map (fun n => n)).set k x = l.set k x := by simp
end Go.Proofs.YtkphbibonagkfaaGreat

/- Plain parts that both steps use. -/
namespace Go.Proofs.YtkphbibonagkfaaGreat
open Go.RowKit
set_option linter.unusedVariables false

theorem owns_heap {w w' : World} {base n sz : Nat} {e : TypeId} {v : Value} {xs : List Value} (h : w.ownsRow base e sz v n xs) (hh : w'.heap = w.heap) : w'.ownsRow base e sz v n xs := by
  unfold World.ownsRow at *; rw [hh]; exact h
theorem calls_drew_gen {P : Program} {f : FuncId} {args : Array Value} {w : World} {k n : Nat} {v : Value}
    (h : Calls P f args (w.drewN (k + n)) fun e w' => e = .returned v ∧ w.drewN (k + n) = w') : Calls P f args (w.drewN (k + n)) fun e w'' => e = .returned v ∧ ∃ m, w'' = w.drewN (k + m) :=
  h.mono fun _ _ ⟨he, hm⟩ => ⟨he, n, hm.symm⟩
theorem two_new (w7 : World) (a b c : Value) (t t2 : TypeId) : ∃ w8, w8 = (w7.alloc (.cells #[a, b] t)).alloc (.cells #[c] t2) ∧ w8.cell? ⟨w7.heap.size, 0, none⟩ = some a ∧ w8.cell? ⟨w7.heap.size, 1, none⟩ = some b ∧ Below w7.heap.size w7 w8 ∧ w7.heap.size + 1 < w8.heap.size ∧
    w8.ownsRow (w7.heap.size + 1) t2 1 (.slice (some ⟨w7.heap.size + 1, 0, none⟩) 1 1) 1 [c] := by
  refine ⟨_, rfl, by go_simp, by go_simp, by (repeat' (first | (with_reducible exact Below.refl _ _) | (with_reducible assumption) | (with_reducible refine Below.drewN ?_ _) | (with_reducible refine Below.alloc ?_ ?_ _) | (with_reducible refine Below.drew ?_) | (with_reducible refine Below.setCell ?_ ?_ _) | (with_reducible refine Below.step (by assumption) ?_ ?_) | (with_reducible exact And.left (by assumption)) | go_size)), by simp, ?_⟩
  exact owns_lit (cs := #[c]) (by simp) (Nat.le_refl _) (by omega) rfl

theorem icells_set' (l : List Int) (k : Nat) (x : Int) : (icells l).set k (.int .i64 x) = icells (l.set k x) := by simp [icells, List.map_set]

/-- What a step hands out. -/
def StepPost (y f b : List Int) (s : Int) (e : Bool) (n : Nat) (w : World) (e' : Ending) (w' : World) : Prop :=
  Below w.heap.size w w' ∧ ((stErr y (outF y f b s) (outB y f b e) ≠ 0 ∧ e' = .returned (.tuple #[.agg #[.slice none 0 0, .slice none 0 0], .slice none 0 0, .int .i64 22])) ∨
    (stErr y (outF y f b s) (outB y f b e) = 0 ∧ ∃ g1 g2 av cv, e' = .returned (.tuple #[.agg #[.slice (some ⟨g1, 0, none⟩) n n, .slice (some ⟨g2, 0, none⟩) n n], .slice av (n + 1) cv, .int .i64 0]) ∧
      IntsR w' (some ⟨g1, 0, none⟩) n (outF y f b s) ∧ IntsR w' (some ⟨g2, 0, none⟩) n (outB y f b e) ∧ IntsR w' av (n + 1) (outV y f b s e)))

/-- The same, with rows that are new. -/
def StepPost2 (y f b : List Int) (s : Int) (e : Bool) (n : Nat) (w : World) (e' : Ending) (w' : World) : Prop :=
  Below w.heap.size w w' ∧ ((stErr y (outF y f b s) (outB y f b e) ≠ 0 ∧ e' = .returned (.tuple #[.agg #[.slice none 0 0, .slice none 0 0], .slice none 0 0, .int .i64 22])) ∨
    (stErr y (outF y f b s) (outB y f b e) = 0 ∧ ∃ g1 g2 av cv, e' = .returned (.tuple #[.agg #[.slice (some ⟨g1, 0, none⟩) n n, .slice (some ⟨g2, 0, none⟩) n n], .slice av (n + 1) cv, .int .i64 0]) ∧
      w'.ownsRow w.heap.size 3 1 (.slice (some ⟨g1, 0, none⟩) n n) n (icells (outF y f b s)) ∧ w'.ownsRow w.heap.size 3 1 (.slice (some ⟨g2, 0, none⟩) n n) n (icells (outB y f b e)) ∧ w'.ownsRow w.heap.size 3 1 (.slice av (n + 1) cv) (n + 1) (icells (outV y f b s e))))
theorem StepPost2.weak {y f b : List Int} {s : Int} {e : Bool} {n : Nat} {w : World} {e' : Ending} {w' : World} (h : StepPost2 y f b s e n w e' w') : StepPost y f b s e n w e' w' := by
  refine ⟨h.1, h.2.imp id ?_⟩
  rintro ⟨h0, g1, g2, av, cv, rfl, h1, h2, h3⟩
  exact ⟨h0, g1, g2, av, cv, rfl, SlR.of_owns h1, SlR.of_owns h2, SlR.of_owns h3⟩

theorem fin_F {y f b : List Int} {s : Int} {k : Nat} (hy : y.length = k + 1) : fwdAt y f b s k k = outF y f b s := by
  unfold outF; rw [fwd_end, hy]; rfl
theorem fin_B {y f b : List Int} {k : Nat} (e : Bool) (x : Int) (hy : y.length = k + 1) (hx : x = if e then -g0 f k else g0 f k) : (bckAt y f b k k).set k x = outB y f b e := by
  unfold outB; rw [bck_end, hy, hx]; rfl
theorem fin_V {y f b : List Int} {s : Int} {k : Nat} (e : Bool) (x : Int) (hy : y.length = k + 1) (hx : x = if e then 0 else 2 * g0 f k) : volAt y f b s k ++ [x] = outV y f b s e := by
  unfold outV volAt; rw [hy, hx]; rfl
theorem set_twice (l : List Int) (k : Nat) (x y : Int) : (l.set k x).set k y = l.set k y := by simp

end Go.Proofs.YtkphbibonagkfaaGreat

/- The chain of capacitances: its small functions. -/
namespace Go.Proofs.YtkphbibonagkfaaGreat
open Go.RowKit
set_option linter.unusedVariables false

/-- The last node whose voltage is not given. -/
def lastOf (n : Nat) (g : Bool) : Int := if g then (n : Int) - 1 else n
/-- The sum of a node's capacitances. -/
def ownOf (s e : List Int) (k : Nat) : Int := if k + 1 < s.length then s.getD k 0 + e.getD k 0 + s.getD (k + 1) 0 else s.getD k 0 + e.getD k 0
end Go.Proofs.YtkphbibonagkfaaGreat

/- The determinants of the node equations: plain lists. -/
namespace Go.Proofs.YtkphbibonagkfaaGreat
set_option linter.unusedVariables false

/-- The determinant of the last m equations of L. -/
def dd (s e : List Int) (L : Nat) : Nat → Int
  | 0 => 1
  | 1 => ownOf s e (L - 1)
  | m + 2 => ownOf s e (L - m - 2) * dd s e L (m + 1) - s.getD (L - m - 1) 0 * s.getD (L - m - 1) 0 * dd s e L m
/-- The list of determinants while the nodes above j are done. -/
def ddAt (s e : List Int) (n L j : Nat) : List Int := (List.range (n + 3)).map (fun i => if j < i ∧ i ≤ L + 1 then dd s e L (L + 1 - i) else 0)
theorem ddAt_len (s e : List Int) (n L j : Nat) : (ddAt s e n L j).length = n + 3 := by simp [ddAt]
theorem ddAt_get (s e : List Int) (n L j i : Nat) (h : i < n + 3) : (ddAt s e n L j).getD i 0 = if j < i ∧ i ≤ L + 1 then dd s e L (L + 1 - i) else 0 := by
  simp [ddAt, List.getD, h]
theorem ddAt_set (s e : List Int) (n L j : Nat) (hj : j ≤ L) (hL : L + 1 < n + 3) : (ddAt s e n L (j + 1)).set (j + 1) (dd s e L (L - j)) = ddAt s e n L j := by
  apply List.ext_getElem
  · simp [ddAt]
  · intro i h1 h2
    simp only [ddAt, List.getElem_set, List.getElem_map, List.getElem_range]
    by_cases hi : j + 1 = i
    · subst hi
      rw [if_pos rfl, if_pos (by omega)]
      congr 1; omega
    · rw [if_neg hi]
      by_cases h3 : j < i ∧ i ≤ L + 1
      · rw [if_pos h3, if_pos (by omega)]
      · rw [if_neg h3, if_neg (by omega)]
theorem ddAt_start (s e : List Int) (n L : Nat) (hL : L + 1 < n + 3) : (List.replicate (n + 3) (0 : Int)).set (L + 1) 1 = ddAt s e n L L := by
  apply List.ext_getElem
  · simp [ddAt]
  · intro i h1 h2
    simp only [ddAt, List.getElem_set, List.getElem_map, List.getElem_range, List.getElem_replicate]
    by_cases hi : L + 1 = i
    · subst hi; simp [dd]
    · rw [if_neg hi, if_neg (by omega)]
theorem own_bd (s e : List Int) (k : Nat) (bs : ∀ x ∈ s, 0 ≤ x ∧ x ≤ 100) (be : ∀ x ∈ e, 0 ≤ x ∧ x ≤ 100) : 0 ≤ ownOf s e k ∧ ownOf s e k ≤ 300 := by
  have gs : ∀ i, 0 ≤ s.getD i 0 ∧ s.getD i 0 ≤ 100 := fun i => by
    by_cases h : i < s.length
    · exact bs _ (getD_mem h)
    · simp [List.getD, Nat.not_lt.1 h]
  have ge : ∀ i, 0 ≤ e.getD i 0 ∧ e.getD i 0 ≤ 100 := fun i => by
    by_cases h : i < e.length
    · exact be _ (getD_mem h)
    · simp [List.getD, Nat.not_lt.1 h]
  have := gs k; have := ge k; have := gs (k + 1)
  unfold ownOf; split <;> omega
theorem dd_bd (s e : List Int) (L : Nat) (bs : ∀ x ∈ s, 0 ≤ x ∧ x ≤ 100) (be : ∀ x ∈ e, 0 ≤ x ∧ x ≤ 100) : ∀ m, (-(400 : Int) ^ m ≤ dd s e L m ∧ dd s e L m ≤ 400 ^ m) ∧ (-(400 : Int) ^ (m + 1) ≤ dd s e L (m + 1) ∧ dd s e L (m + 1) ≤ 400 ^ (m + 1))
  | 0 => by
    have := own_bd s e (L - 1) bs be
    simp [dd]; omega
  | m + 1 => by
    obtain ⟨h1, h2⟩ := dd_bd s e L bs be m
    refine ⟨h2, ?_⟩
    have ho := own_bd s e (L - m - 2) bs be
    have hs : 0 ≤ s.getD (L - m - 1) 0 ∧ s.getD (L - m - 1) 0 ≤ 100 := by
      by_cases h : (L - m - 1) < s.length
      · exact bs _ (getD_mem h)
      · simp [List.getD, Nat.not_lt.1 h]
    simp only [dd]
    generalize s.getD (L - m - 1) 0 = x at hs
    generalize ownOf s e (L - m - 2) = o at ho
    generalize dd s e L m = p at h1
    generalize dd s e L (m + 1) = q at h2
    have e1 : (400 : Int) ^ (m + 1) = 400 * 400 ^ m := by rw [Int.pow_succ]; omega
    have e2 : (400 : Int) ^ (m + 1 + 1) = 160000 * 400 ^ m := by rw [Int.pow_succ, e1]; omega
    rw [e1] at h2
    rw [e2]
    have hp : (0 : Int) < 400 ^ m := Int.pow_pos (by omega)
    generalize (400 : Int) ^ m = P at *
    have b1 : -(120000 * P) ≤ o * q ∧ o * q ≤ 120000 * P := by
      constructor
      · have := Int.mul_le_mul_of_nonneg_left h2.1 ho.1
        have h5 : o * P ≤ 300 * P := Int.mul_le_mul_of_nonneg_right ho.2 (by omega)
        have : o * (-(400 * P)) = -(400 * (o * P)) := by rw [Int.mul_neg, Int.mul_left_comm]
        omega
      · have := Int.mul_le_mul_of_nonneg_left h2.2 ho.1
        have h5 : o * P ≤ 300 * P := Int.mul_le_mul_of_nonneg_right ho.2 (by omega)
        have : o * (400 * P) = 400 * (o * P) := by rw [Int.mul_left_comm]
        omega
    have hxx : 0 ≤ x * x ∧ x * x ≤ 10000 := ⟨Int.mul_nonneg hs.1 hs.1, by have := Int.mul_le_mul hs.2 hs.2 hs.1 (by omega : (0:Int) ≤ 100); omega⟩
    have b2 : -(10000 * P) ≤ x * x * p ∧ x * x * p ≤ 10000 * P := by
      generalize x * x = z at hxx
      constructor
      · have := Int.mul_le_mul_of_nonneg_left h1.1 hxx.1
        have h5 : z * P ≤ 10000 * P := Int.mul_le_mul_of_nonneg_right hxx.2 (by omega)
        have : z * (-P) = -(z * P) := by rw [Int.mul_neg]
        omega
      · have := Int.mul_le_mul_of_nonneg_left h1.2 hxx.1
        have h5 : z * P ≤ 10000 * P := Int.mul_le_mul_of_nonneg_right hxx.2 (by omega)
        omega
    omega

/-- The product of the first k series capacitances. -/
def pr (s : List Int) : Nat → Int
  | 0 => 1
  | k + 1 => pr s k * s.getD k 0
/-- The numerators of the initial voltages, the first k of them. -/
def numsAt (s e : List Int) (n L k : Nat) : List Int := (List.range (n + 1)).map (fun j => if j < k ∧ j ≤ L then pr s j * dd s e L (L - j) else 0)
def numsOf (s e : List Int) (n L : Nat) : List Int := (List.range (n + 1)).map (fun j => if j ≤ L then pr s j * dd s e L (L - j) else 0)
theorem nums_len (s e : List Int) (n L k : Nat) : (numsAt s e n L k).length = n + 1 := by simp [numsAt]
theorem nums_get (s e : List Int) (n L k : Nat) (h : k < n + 1) : (numsAt s e n L k).getD k 0 = 0 := by
  simp [numsAt, List.getD, h]
theorem nums_set (s e : List Int) (n L k : Nat) (hk : k ≤ L) : (numsAt s e n L k).set k (pr s k * dd s e L (L - k)) = numsAt s e n L (k + 1) := by
  apply List.ext_getElem
  · simp [numsAt]
  · intro i h1 h2
    simp only [numsAt, List.getElem_set, List.getElem_map, List.getElem_range]
    by_cases hi : k = i
    · subst hi; rw [if_pos rfl, if_pos (by omega)]
    · rw [if_neg hi]
      by_cases h3 : i < k ∧ i ≤ L
      · rw [if_pos h3, if_pos (by omega)]
      · rw [if_neg h3, if_neg (by omega)]
theorem nums_start (s e : List Int) (n L : Nat) : List.replicate (n + 1) (0 : Int) = numsAt s e n L 0 := by
  simp [numsAt, List.map_const']
theorem nums_end (s e : List Int) (n L : Nat) : numsAt s e n L (L + 1) = numsOf s e n L := by
  unfold numsAt numsOf
  refine List.map_congr_left fun j _ => ?_
  by_cases h : j ≤ L
  · rw [if_pos h, if_pos (by omega)]
  · rw [if_neg h, if_neg (by omega)]
theorem pr_bd (s : List Int) (bs : ∀ x ∈ s, 0 ≤ x ∧ x ≤ 100) : ∀ k, 0 ≤ pr s k ∧ pr s k ≤ 100 ^ k
  | 0 => by simp [pr]
  | k + 1 => by
    obtain ⟨h1, h2⟩ := pr_bd s bs k
    have hs : 0 ≤ s.getD k 0 ∧ s.getD k 0 ≤ 100 := by
      by_cases h : k < s.length
      · exact bs _ (getD_mem h)
      · simp [List.getD, Nat.not_lt.1 h]
    simp only [pr]
    refine ⟨Int.mul_nonneg h1 hs.1, ?_⟩
    rw [Int.pow_succ]
    exact Int.mul_le_mul h2 hs.2 hs.1 (Int.le_of_lt (Int.pow_pos (by omega)))
end Go.Proofs.YtkphbibonagkfaaGreat
