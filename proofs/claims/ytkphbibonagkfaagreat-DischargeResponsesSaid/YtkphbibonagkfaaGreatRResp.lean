import Derived.Test.YtkphbibonagkfaaGreatMPlainFrac
import Derived.Test.YtkphbibonagkfaaGreatRNet
/- The reference of responses: whole complex numbers, a response. -/
namespace Go.Proofs.YtkphbibonagkfaaGreat
open Go.RowKit
set_option linter.unusedVariables false

theorem nG_bd {g : GI} {A : Nat} (h : nG g ≤ A) : (-(A : Int) ≤ g.re ∧ g.re ≤ A) ∧ -(A : Int) ≤ g.im ∧ g.im ≤ A := by
  unfold nG at h
  omega
set_option maxRecDepth 100000 in
theorem gAdd_any (a b : GI) (w : World) (ha : nG a ≤ 1000000000000000000) (hb : nG b ≤ 1000000000000000000) :
    Calls Tryz.prog 109 #[.agg #[.int .i64 a.re, .int .i64 a.im], .agg #[.int .i64 b.re, .int .i64 b.im]] w fun e' w' => e' = .returned (.agg #[.int .i64 (a.add b).re, .int .i64 (a.add b).im]) ∧ Below w.heap.size w w' := by
  have h1 := nG_bd ha
  have h2 := nG_bd hb
  have w1 : IntKind.i64.wrap (a.re + b.re) = a.re + b.re := by rw [IntKind.wrap_i64]; omega
  have w2 : IntKind.i64.wrap (a.im + b.im) = a.im + b.im := by rw [IntKind.wrap_i64]; omega
  unfold GI.add
  go_enter Tryz.func109, Tryz.ntmps109
  go_wp2
  refine bodyPost_ret (v := .agg #[.int .i64 (a.re + b.re), .int .i64 (a.im + b.im)]) (by simp [results, Tryz.results109, go_sem]) rfl ⟨rfl, ?_⟩
  (repeat' (first | (with_reducible exact Below.refl _ _) | (with_reducible assumption) | (with_reducible refine Below.drewN ?_ _) | (with_reducible refine Below.alloc ?_ ?_ _) | (with_reducible refine Below.drew ?_) | (with_reducible refine Below.setCell ?_ ?_ _) | (with_reducible refine Below.step (by assumption) ?_ ?_) | (with_reducible exact And.left (by assumption)) | go_size))
set_option maxRecDepth 100000 in
theorem gMul_any (a b : GI) (w : World) (A B : Nat) (ha : nG a ≤ A) (hb : nG b ≤ B) (hAB : (A : Int) * B ≤ 1000000000000000000) :
    Calls Tryz.prog 110 #[.agg #[.int .i64 a.re, .int .i64 a.im], .agg #[.int .i64 b.re, .int .i64 b.im]] w fun e' w' => e' = .returned (.agg #[.int .i64 (a.mul b).re, .int .i64 (a.mul b).im]) ∧ Below w.heap.size w w' := by
  have h1 := nG_bd ha
  have h2 := nG_bd hb
  have m1 := mulb (a := a.re) (b := b.re) A B 1000000000000000000 h1.1.1 h1.1.2 h2.1.1 h2.1.2 hAB
  have m2 := mulb (a := a.im) (b := b.im) A B 1000000000000000000 h1.2.1 h1.2.2 h2.2.1 h2.2.2 hAB
  have m3 := mulb (a := a.re) (b := b.im) A B 1000000000000000000 h1.1.1 h1.1.2 h2.2.1 h2.2.2 hAB
  have m4 := mulb (a := a.im) (b := b.re) A B 1000000000000000000 h1.2.1 h1.2.2 h2.1.1 h2.1.2 hAB
  have w1 : IntKind.i64.wrap (a.re * b.re) = a.re * b.re := by rw [IntKind.wrap_i64]; omega
  have w2 : IntKind.i64.wrap (a.im * b.im) = a.im * b.im := by rw [IntKind.wrap_i64]; omega
  have w3 : IntKind.i64.wrap (a.re * b.im) = a.re * b.im := by rw [IntKind.wrap_i64]; omega
  have w4 : IntKind.i64.wrap (a.im * b.re) = a.im * b.re := by rw [IntKind.wrap_i64]; omega
  have w5 : IntKind.i64.wrap (a.re * b.re - a.im * b.im) = a.re * b.re - a.im * b.im := by rw [IntKind.wrap_i64]; omega
  have w6 : IntKind.i64.wrap (a.re * b.im + a.im * b.re) = a.re * b.im + a.im * b.re := by rw [IntKind.wrap_i64]; omega
  unfold GI.mul
  go_enter Tryz.func110, Tryz.ntmps110
  go_wp2
  refine bodyPost_ret (v := .agg #[.int .i64 (a.re * b.re - a.im * b.im), .int .i64 (a.re * b.im + a.im * b.re)]) (by simp [results, Tryz.results110, go_sem]) rfl ⟨rfl, ?_⟩
  (repeat' (first | (with_reducible exact Below.refl _ _) | (with_reducible assumption) | (with_reducible refine Below.drewN ?_ _) | (with_reducible refine Below.alloc ?_ ?_ _) | (with_reducible refine Below.drew ?_) | (with_reducible refine Below.setCell ?_ ?_ _) | (with_reducible refine Below.step (by assumption) ?_ ?_) | (with_reducible exact And.left (by assumption)) | go_size))
/-- The voltage and the current before a section, from the end. -/
def cAt (w : Int) (l : List T3) (j : Nat) : GI × GI := ((l.drop j).map sOf).foldr (colStep w) (⟨1, 0⟩, ⟨0, 0⟩)
theorem cAt_step {w : Int} {l : List T3} {j : Nat} {p : T3} (h : l[j]? = some p) : cAt w l j = colStep w (sOf p) (cAt w l (j + 1)) := by
  unfold cAt
  rw [drop_cons' h]
  rfl
theorem cAt_end {w : Int} {l : List T3} {j : Nat} (h : l.length ≤ j) : cAt w l j = (⟨1, 0⟩, ⟨0, 0⟩) := by
  unfold cAt
  rw [List.drop_eq_nil_of_le h]
  rfl
theorem col_bd {w : Int} (hw : 0 ≤ w ∧ w ≤ 6) : ∀ (l : List Sec), (∀ s ∈ l, secOk s) → nG (l.foldr (colStep w) (⟨1, 0⟩, ⟨0, 0⟩)).1 + nG (l.foldr (colStep w) (⟨1, 0⟩, ⟨0, 0⟩)).2 ≤ 438 ^ l.length
  | [], _ => by simp [nG]
  | s :: r, h => by
    have ih := col_bd hw r (fun x hx => h x (by simp [hx]))
    simp only [List.foldr_cons, List.length_cons]
    generalize r.foldr (colStep w) (⟨1, 0⟩, ⟨0, 0⟩) = p at *
    have hz := z_bd hw (h s (by simp))
    have hy := y_bd hw (h s (by simp))
    unfold colStep
    have a1 := nG_mul (s.y w) p.1
    have a2 := nG_add p.2 ((s.y w).mul p.1)
    have a3 := nG_mul (s.z w) (p.2.add ((s.y w).mul p.1))
    have a4 := nG_add p.1 ((s.z w).mul (p.2.add ((s.y w).mul p.1)))
    have b1 := Nat.mul_le_mul_right (nG p.1) hy
    have b2 := Nat.mul_le_mul_right (nG (p.2.add ((s.y w).mul p.1))) hz
    have e : 438 ^ (r.length + 1) = 438 * 438 ^ r.length := by rw [Nat.pow_succ, Nat.mul_comm]
    rw [e]
    simp only
    omega
theorem cAt_bd {w : Int} {l : List T3} (hw : 0 ≤ w ∧ w ≤ 6) (hs : ∀ p ∈ l, secB p = true) (hl : l.length ≤ 3) (j : Nat) : nG (cAt w l j).1 + nG (cAt w l j).2 ≤ 84027672 := by
  have h := col_bd hw ((l.drop j).map sOf) (fun s hs' => by
    obtain ⟨p, hp, rfl⟩ := List.mem_map.1 hs'
    exact sec_ok (hs p (List.mem_of_mem_drop hp)))
  have h2 : ((l.drop j).map sOf).length ≤ 3 := by simp; omega
  have h3 : 438 ^ ((l.drop j).map sOf).length ≤ 438 ^ 3 := Nat.pow_le_pow_right (by omega) h2
  have h4 : 438 ^ 3 = 84027672 := by decide
  unfold cAt
  omega
theorem cAt_resp (w : Int) (l : List T3) : (cAt w l 0).1 = respG w (l.map sOf) := by
  rw [resp_col]
  rfl
end Go.Proofs.YtkphbibonagkfaaGreat
