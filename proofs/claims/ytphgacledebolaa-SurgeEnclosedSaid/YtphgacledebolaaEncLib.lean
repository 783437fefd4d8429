import Derived.Test.YtphgacledebolaaAwake
import Derived.Test.YtphgacledebolaaFallLib
import Derived.Test.YtphgacledebolaaLadLib
import Derived.Test.YtphgacledebolaaMLaw
import Derived.Test.YtphgacledebolaaMNs
import Derived.Test.YtphgacledebolaaMSch
import Derived.Test.YtphgacledebolaaRat2
import Derived.Test.YtphgacledebolaaRngLib
/- Helpers of the walk of SurgeEnclosed: three rows of the call's own, a span that is one, fractions compared. -/
namespace Go.Proofs.Ytphgacledebolaa
open Go.RowKit
set_option linter.unusedVariables false

/-- Two values that own no block in common. -/
def Dis (v v' : Value) : Prop := ∀ k, v.ownBlock = some k → v'.ownBlock ≠ some k
theorem Dis.symm {v v' : Value} (h : Dis v v') : Dis v' v := fun k h1 h2 => h k h2 h1
theorem Dis.kept {v v' : Value} (h : Dis v v') : v'.ownBlock = none ∨ v'.ownBlock ≠ v.ownBlock := by
  rcases hq : v'.ownBlock with _ | k
  · exact .inl rfl
  · exact .inr (fun h2 => h k h2.symm hq)
/-- Three rows of integers, each in a block of its own. -/
structure O3 (w : World) (base : Nat) (v1 v2 v3 : Value) (n1 n2 n3 : Nat) (l1 l2 l3 : List Int) : Prop where
  o1 : w.ownsRow base 3 1 v1 n1 (icells l1)
  o2 : w.ownsRow base 3 1 v2 n2 (icells l2)
  o3 : w.ownsRow base 3 1 v3 n3 (icells l3)
  d12 : Dis v1 v2
  d23 : Dis v2 v3
  d31 : Dis v3 v1
theorem O3.rot {w : World} {base : Nat} {v1 v2 v3 : Value} {n1 n2 n3 : Nat} {l1 l2 l3 : List Int} (h : O3 w base v1 v2 v3 n1 n2 n3 l1 l2 l3) : O3 w base v2 v3 v1 n2 n3 n1 l2 l3 l1 := ⟨h.o2, h.o3, h.o1, h.d23, h.d31, h.d12⟩
theorem O3.below {w w' : World} {base : Nat} {v1 v2 v3 : Value} {n1 n2 n3 : Nat} {l1 l2 l3 : List Int} (h : O3 w base v1 v2 v3 n1 n2 n3 l1 l2 l3) (hb : Below w.heap.size w w') : O3 w' base v1 v2 v3 n1 n2 n3 l1 l2 l3 :=
  ⟨owns_below h.o1 hb (fun q hq => (h.o1.lt q hq).2), owns_below h.o2 hb (fun q hq => (h.o2.lt q hq).2), owns_below h.o3 hb (fun q hq => (h.o3.lt q hq).2), h.d12, h.d23, h.d31⟩
theorem O3.set {w : World} {base b o : Nat} {v1 v2 v3 : Value} {n1 n2 n3 : Nat} {l1 l2 l3 : List Int} (h : O3 w base v1 v2 v3 n1 n2 n3 l1 l2 l3) (hb : b < base) (u : Value) : O3 (w.setCell ⟨b, o, none⟩ u) base v1 v2 v3 n1 n2 n3 l1 l2 l3 :=
  ⟨ownsRow_setCell_below h.o1 (a := ⟨b, o, none⟩) hb u, ownsRow_setCell_below h.o2 (a := ⟨b, o, none⟩) hb u, ownsRow_setCell_below h.o3 (a := ⟨b, o, none⟩) hb u, h.d12, h.d23, h.d31⟩
theorem O3.nil (w : World) (base : Nat) : O3 w base (.slice none 0 0) (.slice none 0 0) (.slice none 0 0) 0 0 0 [] [] [] :=
  ⟨World.ownsRow_nil _ _ _ _, World.ownsRow_nil _ _ _ _, World.ownsRow_nil _ _ _ _, (fun k h => by simp [Value.ownBlock] at h), (fun k h => by simp [Value.ownBlock] at h), (fun k h => by simp [Value.ownBlock] at h)⟩
theorem Dis.new {w : World} {base n sz : Nat} {e : TypeId} {v v' v2 : Value} {xs : List Value} (h : Dis v v2) (ho : w.ownsRow base e sz v2 n xs) (hat : v'.ownBlock = v.ownBlock ∨ v'.ownBlock = some w.heap.size) : Dis v' v2 := fun k hk h2 => by
  rcases hat with h1 | h1
  · rw [h1] at hk; exact h k hk h2
  · rw [h1] at hk
    simp only [Option.some.injEq] at hk
    have := (ho.lt k h2).2
    omega
/-- The first row has got one element more. -/
theorem O3.step {w w' : World} {base : Nat} {v1 v2 v3 v' : Value} {n1 n2 n3 : Nat} {l1 l2 l3 : List Int} {x : Int} (h : O3 w base v1 v2 v3 n1 n2 n3 l1 l2 l3) (hown : w'.ownsRow base 3 1 v' (n1 + 1) (icells l1 ++ [.int .i64 x])) (hg : w.grownBy w' v1.ownBlock) (hat : v'.ownBlock = v1.ownBlock ∨ v'.ownBlock = some w.heap.size) :
    O3 w' base v' v2 v3 (n1 + 1) n2 n3 (l1 ++ [x]) l2 l3 :=
  ⟨by rw [icells_append]; exact hown, h.o2.kept hg h.d12.kept, h.o3.kept hg h.d31.symm.kept, h.d12.new h.o2 hat, h.d23, (h.d31.symm.new h.o3 hat).symm⟩
theorem bcmp9_any (a1 a2 b1 b2 : Int) (w : World) (h1 : -4000000000000000000 ≤ a1 * b2 ∧ a1 * b2 ≤ 4000000000000000000) (h2 : -4000000000000000000 ≤ b1 * a2 ∧ b1 * a2 ≤ 4000000000000000000) :
    Calls Try.prog 26 #[.agg #[.int .i64 a1, .int .i64 a2], .agg #[.int .i64 b1, .int .i64 b2]] w fun e' w' => e' = .returned (.int .i64 (cmpI (a1 * b2) (b1 * a2))) ∧ Below w.heap.size w w' := by
  obtain ⟨R, hR⟩ : ∃ R, R = cmpI (a1 * b2) (b1 * a2) := ⟨_, rfl⟩
  rw [← hR]
  have HR := Lib.hid hR
  clear hR
  go_enter Try.func26, Try.ntmps26
  go_wp2
  go_quiet (fail)
  go_wp2_with fail
  all_goals
    go_ret
    refine ⟨ret_int (by rw [HR.out]; unfold cmpI; (repeat' split) <;> first | rfl | omega), ?_⟩
    (repeat' (first | (with_reducible exact Below.refl _ _) | (with_reducible assumption) | (with_reducible refine Below.drewN ?_ _) | (with_reducible refine Below.alloc ?_ ?_ _) | (with_reducible refine Below.drew ?_) | (with_reducible refine Below.setCell ?_ ?_ _) | (with_reducible refine Below.step (by assumption) ?_ ?_) | (with_reducible exact And.left (by assumption)) | go_size))
theorem cmp_le {x y : Int} (h : x ≤ y) : ∃ c, cmpI x y = c ∧ c ≤ 0 := by
  unfold cmpI
  by_cases h1 : x < y
  · exact ⟨-1, by rw [if_pos h1], by omega⟩
  · exact ⟨0, by rw [if_neg h1, if_neg (by omega)], by omega⟩
theorem prod9 {a b : Int} (ha : -1000000000 ≤ a ∧ a ≤ 1000000000) (hb : 0 ≤ b ∧ b ≤ 1000000000) : -4000000000000000000 ≤ a * b ∧ a * b ≤ 4000000000000000000 :=
  mulb (a := a) (b := b) 1000000000 1000000000 4000000000000000000 ha.1 ha.2 (by omega) (by omega) (by omega)
/-- Fractions in lowest terms that are small. -/
def FrS (p : Int × Int) : Prop := 1 ≤ p.2 ∧ p.2 ≤ 1000000000 ∧ gc p.1 p.2 = 1 ∧ -1000000000 ≤ p.1 ∧ p.1 ≤ 1000000000
/-- Comparing such fractions. -/
theorem cmpS_any {p q : Int × Int} (hp : FrS p) (hq : FrS q) (h : p.1 * q.2 ≤ q.1 * p.2) : ∃ c : Int, c ≤ 0 ∧ ∀ w : World, Calls Try.prog 26 #[.agg #[.int .i64 p.1, .int .i64 p.2], .agg #[.int .i64 q.1, .int .i64 q.2]] w fun e' w' => e' = .returned (.int .i64 c) ∧ Below w.heap.size w w' := by
  obtain ⟨c, hc, h0⟩ := cmp_le h
  refine ⟨c, h0, fun w => ?_⟩
  have := bcmp9_any p.1 p.2 q.1 q.2 w (prod9 ⟨hp.2.2.2.1, hp.2.2.2.2⟩ ⟨by have := hq.1; omega, hq.2.1⟩) (prod9 ⟨hq.2.2.2.1, hq.2.2.2.2⟩ ⟨by have := hp.1; omega, hp.2.1⟩)
  rwa [hc] at this
theorem lowS_any {p : Int × Int} (hp : FrS p) (w : World) : Calls Try.prog 23 #[.agg #[.int .i64 p.1, .int .i64 p.2]] w fun e' w' => e' = .returned (.bool true) ∧ Below w.heap.size w w' := by
  obtain ⟨h1, h2, h3, h4, h5⟩ := hp
  have := isLowest_any p.1 p.2 w (by omega) (by omega) (by omega) (by omega)
  rwa [h3, show (decide (p.2 > 0) && ((1 : Int) == 1)) = true by simp; omega] at this
theorem smallS_any {p : Int × Int} (hp : FrS p) (w : World) : Calls Try.prog 24 #[.agg #[.int .i64 p.1, .int .i64 p.2]] w fun e' w' => e' = .returned (.bool true) ∧ Below w.heap.size w w' := by
  obtain ⟨h1, h2, h3, h4, h5⟩ := hp
  have := bisSmall_any p.1 p.2 w
  rwa [wi_iff.2 ⟨h4, h5⟩, wi_iff.2 ⟨h1, h2⟩, Bool.and_self] at this
theorem frS_low {a b : Int} (hb : 0 < b) (h : smallF (low a b) = true) : FrS (low a b) := by
  simp only [smallF, Bool.and_eq_true, wi_iff, decide_eq_true_eq] at h
  exact ⟨low_den' hb, h.2, low_gc a b hb, h.1.1, h.1.2⟩
set_option maxHeartbeats 1000000 in
set_option maxRecDepth 100000 in
theorem isSpan_any {p q : Int × Int} (hp : FrS p) (hq : FrS q) (h : p.1 * q.2 ≤ q.1 * p.2) (w : World) : Calls Try.prog 25 #[.agg #[.int .i64 p.1, .int .i64 p.2, .int .i64 q.1, .int .i64 q.2]] w fun e' w' => e' = .returned (.bool true) ∧ Below w.heap.size w w' := by
  have HL1 := Lib.hid (fun w => lowS_any hp w)
  have HL2 := Lib.hid (fun w => lowS_any hq w)
  have HS1 := Lib.hid (fun w => smallS_any hp w)
  have HS2 := Lib.hid (fun w => smallS_any hq w)
  obtain ⟨c, hc0, hc⟩ := cmpS_any hp hq h
  have HC := Lib.hid hc
  have hcb : decide (c ≤ 0) = true := by simpa using hc0
  clear hp hq h hc
  obtain ⟨p1, p2⟩ := p
  obtain ⟨q1, q2⟩ := q
  simp only at HL1 HL2 HS1 HS2 HC ⊢
  go_enter Try.func25, Try.ntmps25
  go_wp2_with fail
  refine (HL1.out _).mono ?_
  rintro e5 w5 ⟨rfl, hb5⟩
  have hz5 := hb5.size
  simp only [World.size_alloc] at hz5
  have a0 : w5.cell? ⟨w.heap.size, 0, none⟩ = some (.int .i64 p1) := by { rw [cellB hb5 _ _ (by first | (simp; done) | (simp; omega) | omega)]; all_goals (first | assumption | go_simp) }; have a1 : w5.cell? ⟨w.heap.size, 1, none⟩ = some (.int .i64 p2) := by { rw [cellB hb5 _ _ (by first | (simp; done) | (simp; omega) | omega)]; all_goals (first | assumption | go_simp) }; have a2 : w5.cell? ⟨w.heap.size, 2, none⟩ = some (.int .i64 q1) := by { rw [cellB hb5 _ _ (by first | (simp; done) | (simp; omega) | omega)]; all_goals (first | assumption | go_simp) }; have a3 : w5.cell? ⟨w.heap.size, 3, none⟩ = some (.int .i64 q2) := by { rw [cellB hb5 _ _ (by first | (simp; done) | (simp; omega) | omega)]; all_goals (first | assumption | go_simp) }
  have HB5 := Lib.hid (show Below w.heap.size w w5 by (repeat' (first | (with_reducible exact Below.refl _ _) | (with_reducible assumption) | (with_reducible refine Below.drewN ?_ _) | (with_reducible refine Below.alloc ?_ ?_ _) | (with_reducible refine Below.drew ?_) | (with_reducible refine Below.setCell ?_ ?_ _) | (with_reducible refine Below.step (by assumption) ?_ ?_) | (with_reducible exact And.left (by assumption)) | go_size)))
  clear hb5
  go_wp2_with fail
  refine (HL2.out _).mono ?_
  rintro e6 w6 ⟨rfl, hb6⟩
  have hz6 := hb6.size
  have b0 : w6.cell? ⟨w.heap.size, 0, none⟩ = some (.int .i64 p1) := by { rw [cellB hb6 _ _ (by first | (simp; done) | (simp; omega) | omega)]; all_goals (first | assumption | go_simp) }; have b1 : w6.cell? ⟨w.heap.size, 1, none⟩ = some (.int .i64 p2) := by { rw [cellB hb6 _ _ (by first | (simp; done) | (simp; omega) | omega)]; all_goals (first | assumption | go_simp) }; have b2 : w6.cell? ⟨w.heap.size, 2, none⟩ = some (.int .i64 q1) := by { rw [cellB hb6 _ _ (by first | (simp; done) | (simp; omega) | omega)]; all_goals (first | assumption | go_simp) }; have b3 : w6.cell? ⟨w.heap.size, 3, none⟩ = some (.int .i64 q2) := by { rw [cellB hb6 _ _ (by first | (simp; done) | (simp; omega) | omega)]; all_goals (first | assumption | go_simp) }
  have HB6 := Lib.hid (HB5.out.trans (hb6.mono (by omega)))
  clear hb6 a0 a1 a2 a3
  go_wp2_with fail
  refine (HS1.out _).mono ?_
  rintro e7 w7 ⟨rfl, hb7⟩
  have hz7 := hb7.size
  have a0 : w7.cell? ⟨w.heap.size, 0, none⟩ = some (.int .i64 p1) := by { rw [cellB hb7 _ _ (by first | (simp; done) | (simp; omega) | omega)]; all_goals (first | assumption | go_simp) }; have a1 : w7.cell? ⟨w.heap.size, 1, none⟩ = some (.int .i64 p2) := by { rw [cellB hb7 _ _ (by first | (simp; done) | (simp; omega) | omega)]; all_goals (first | assumption | go_simp) }; have a2 : w7.cell? ⟨w.heap.size, 2, none⟩ = some (.int .i64 q1) := by { rw [cellB hb7 _ _ (by first | (simp; done) | (simp; omega) | omega)]; all_goals (first | assumption | go_simp) }; have a3 : w7.cell? ⟨w.heap.size, 3, none⟩ = some (.int .i64 q2) := by { rw [cellB hb7 _ _ (by first | (simp; done) | (simp; omega) | omega)]; all_goals (first | assumption | go_simp) }
  have HB7 := Lib.hid (HB6.out.trans (hb7.mono (by omega)))
  clear hb7 b0 b1 b2 b3
  go_wp2_with fail
  refine (HS2.out _).mono ?_
  rintro e8 w8 ⟨rfl, hb8⟩
  have hz8 := hb8.size
  have b0 : w8.cell? ⟨w.heap.size, 0, none⟩ = some (.int .i64 p1) := by { rw [cellB hb8 _ _ (by first | (simp; done) | (simp; omega) | omega)]; all_goals (first | assumption | go_simp) }; have b1 : w8.cell? ⟨w.heap.size, 1, none⟩ = some (.int .i64 p2) := by { rw [cellB hb8 _ _ (by first | (simp; done) | (simp; omega) | omega)]; all_goals (first | assumption | go_simp) }; have b2 : w8.cell? ⟨w.heap.size, 2, none⟩ = some (.int .i64 q1) := by { rw [cellB hb8 _ _ (by first | (simp; done) | (simp; omega) | omega)]; all_goals (first | assumption | go_simp) }; have b3 : w8.cell? ⟨w.heap.size, 3, none⟩ = some (.int .i64 q2) := by { rw [cellB hb8 _ _ (by first | (simp; done) | (simp; omega) | omega)]; all_goals (first | assumption | go_simp) }
  have HB8 := Lib.hid (HB7.out.trans (hb8.mono (by omega)))
  clear hb8 a0 a1 a2 a3
  go_wp2_with fail
  refine (HC.out _).mono ?_
  rintro e9 w9 ⟨rfl, hb9⟩
  have HB9 := Lib.hid (HB8.out.trans (hb9.mono (by omega)))
  clear hb9
  go_wp2
  go_ret
  exact ⟨rfl, HB9.out⟩
theorem pk_err {s e : List (Int × Int)} {n L : Nat} {g : Bool} (X : List Int) (h : rngErr s e = 0) (hn : s.length = n) (hL : lastOf n g = L) : ladErr (pkL s X 0 n) (pkL e X 1 n) (List.replicate n 1) = 0 := by
  have l0 := rng_pk X h hn hL
  unfold ladErr
  rw [if_pos ⟨by rw [l0.ls]; exact l0.n0, by rw [l0.ls, l0.le], by rw [l0.ls]; simp⟩, if_pos (by rw [l0.ls]; exact l0.n6)]
  have : ladAll (pkL s X 0 n) (pkL e X 1 n) (List.replicate n 1) 0 = true := by
    unfold ladAll
    simp only [List.drop_zero]
    rw [List.all_eq_true]
    rintro ⟨x, y, z⟩ hx
    have h1 := (List.of_mem_zip hx).1
    have h2 := (List.of_mem_zip hx).2
    have h3 := (List.of_mem_zip h2).1
    have h4 := (List.of_mem_zip h2).2
    obtain ⟨_, rfl⟩ := List.mem_replicate.1 h4
    have h5 := l0.bs x h1
    have h6 := l0.be y h3
    simp only [ok3, Bool.and_eq_true, wi_iff]
    omega
  rw [this]; rfl
end Go.Proofs.Ytphgacledebolaa
