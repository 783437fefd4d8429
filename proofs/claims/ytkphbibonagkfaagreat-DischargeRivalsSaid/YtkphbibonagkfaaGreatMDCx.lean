import Derived.Test.YtkphbibonagkfaaGreatDNet
import Derived.Test.YtkphbibonagkfaaGreatMFInt
import Derived.Test.YtkphbibonagkfaaGreatMRef1
import Derived.Test.YtkphbibonagkfaaGreatMSched
import Derived.Test.YtkphbibonagkfaaGreatMSmall
/- Whole complex numbers as complex128: sums and products are exact while they are small. -/
namespace Go.Proofs.YtkphbibonagkfaaGreat
set_option linter.unusedVariables false

/-- The two words stand for g. -/
def CG (a b : Nat) (g : GI) : Prop := Rd a g.re ∧ Rd b g.im
def nG (g : GI) : Nat := g.re.natAbs + g.im.natAbs
theorem nG_add (g h : GI) : nG (g.add h) ≤ nG g + nG h := by
  unfold nG GI.add; simp only; omega
theorem nG_mul (g h : GI) : nG (g.mul h) ≤ nG g * nG h := by
  obtain ⟨a, b⟩ := g
  obtain ⟨c, d⟩ := h
  show (a * c - b * d).natAbs + (a * d + b * c).natAbs ≤ (a.natAbs + b.natAbs) * (c.natAbs + d.natAbs)
  have h1 : (a * c - b * d).natAbs ≤ a.natAbs * c.natAbs + b.natAbs * d.natAbs := by
    rw [← Int.natAbs_mul, ← Int.natAbs_mul]; omega
  have h2 : (a * d + b * c).natAbs ≤ a.natAbs * d.natAbs + b.natAbs * c.natAbs := by
    rw [← Int.natAbs_mul, ← Int.natAbs_mul]; omega
  rw [Nat.add_mul, Nat.mul_add, Nat.mul_add]
  omega
theorem cg_mul {a b c d : Nat} {g h : GI} (h1 : CG a b g) (h2 : CG c d h) (hb : nG g * nG h < 2 ^ 53) : ∃ x y, cMulBits a b c d = some (x, y) ∧ CG x y (g.mul h) := by
  obtain ⟨p, q⟩ := g
  obtain ⟨r, s⟩ := h
  have e : (p.natAbs + q.natAbs) * (r.natAbs + s.natAbs) < 2 ^ 53 := hb
  rw [Nat.add_mul, Nat.mul_add, Nat.mul_add, ← Int.natAbs_mul, ← Int.natAbs_mul, ← Int.natAbs_mul, ← Int.natAbs_mul] at e
  obtain ⟨ac, e1, r1⟩ := rd_mul h1.1 h2.1 (by show (p * r).natAbs < _; omega)
  obtain ⟨bd, e2, r2⟩ := rd_mul h1.2 h2.2 (by show (q * s).natAbs < _; omega)
  obtain ⟨re, e3, r3⟩ := rd_sub r1 r2 (by show (p * r - q * s).natAbs < _; omega)
  obtain ⟨ad, e4, r4⟩ := rd_mul h1.1 h2.2 (by show (p * s).natAbs < _; omega)
  obtain ⟨bc, e5, r5⟩ := rd_mul h1.2 h2.1 (by show (q * r).natAbs < _; omega)
  obtain ⟨im, e6, r6⟩ := rd_add r4 r5 (by show (p * s + q * r).natAbs < _; omega)
  exact ⟨re, im, by unfold cMulBits; rw [e1, Option.bind_some, e2, Option.bind_some, e3, Option.bind_some, e4, Option.bind_some, e5, Option.bind_some, e6, Option.bind_some], r3, r6⟩
theorem cg_add {a b c d : Nat} {g h : GI} (h1 : CG a b g) (h2 : CG c d h) (hb : nG g + nG h < 2 ^ 53) : ∃ x y, cSumBits .add .f64 a b c d = some (x, y) ∧ CG x y (g.add h) := by
  obtain ⟨p, q⟩ := g
  obtain ⟨r, s⟩ := h
  have e : (p.natAbs + q.natAbs) + (r.natAbs + s.natAbs) < 2 ^ 53 := hb
  obtain ⟨re, e1, r1⟩ := rd_add h1.1 h2.1 (by show (p + r).natAbs < _; omega)
  obtain ⟨im, e2, r2⟩ := rd_add h1.2 h2.2 (by show (q + s).natAbs < _; omega)
  exact ⟨re, im, by unfold cSumBits; rw [e1, Option.bind_some, e2, Option.bind_some], r1, r2⟩
theorem rd_one : Rd 4607182418800017408 1 := by
  have h := rd_of 1 (by decide)
  have e : floatOfInt .f64 1 = 4607182418800017408 := by decide +kernel
  rwa [e] at h
theorem rd_zero : Rd 0 0 := by
  have h := rd_of 0 (by decide)
  have e : floatOfInt .f64 0 = 0 := by decide +kernel
  rwa [e] at h
theorem cg_one : CG 4607182418800017408 0 ⟨1, 0⟩ := ⟨rd_one, rd_zero⟩
theorem cg_zero : CG 0 0 ⟨0, 0⟩ := ⟨rd_zero, rd_zero⟩
/-- A section that is in range, at a frequency. -/
def secOk (s : Sec) : Prop := (0 ≤ s.r ∧ s.r ≤ 5) ∧ (0 ≤ s.l ∧ s.l ≤ 3) ∧ (0 ≤ s.c ∧ s.c ≤ 3)
theorem z_bd {w : Int} {s : Sec} (hw : 0 ≤ w ∧ w ≤ 6) (hs : secOk s) : nG (s.z w) ≤ 23 := by
  obtain ⟨⟨h1, h2⟩, ⟨h3, h4⟩, h5, h6⟩ := hs
  have h7 := Int.mul_le_mul hw.2 h4 h3 (by omega)
  have h8 := Int.mul_nonneg hw.1 h3
  unfold nG Sec.z; simp only; omega
theorem y_bd {w : Int} {s : Sec} (hw : 0 ≤ w ∧ w ≤ 6) (hs : secOk s) : nG (s.y w) ≤ 18 := by
  obtain ⟨⟨h1, h2⟩, ⟨h3, h4⟩, h5, h6⟩ := hs
  have h7 := Int.mul_le_mul hw.2 h6 h5 (by omega)
  have h8 := Int.mul_nonneg hw.1 h5
  unfold nG Sec.y; simp only; omega
theorem zy_bd {w : Int} {s : Sec} (hw : 0 ≤ w ∧ w ≤ 6) (hs : secOk s) : nG ((s.z w).mul (s.y w)) ≤ 414 ∧ nG ((GI.mk 1 0).add ((s.z w).mul (s.y w))) ≤ 415 := by
  have h1 := nG_mul (s.z w) (s.y w)
  have h2 := Nat.mul_le_mul (z_bd hw hs) (y_bd hw hs)
  have h3 := nG_add (GI.mk 1 0) ((s.z w).mul (s.y w))
  have h4 : nG (GI.mk 1 0) = 1 := rfl
  omega
/-- What one section does to the sizes. -/
theorem step_bd {w : Int} {s : Sec} (hw : 0 ≤ w ∧ w ≤ 6) (hs : secOk s) (p : GI × GI) : nG (rowStep w p s).1 + nG (rowStep w p s).2 ≤ 438 * (nG p.1 + nG p.2) := by
  have h0 := (zy_bd hw hs).2
  have h1 := nG_mul p.1 ((GI.mk 1 0).add ((s.z w).mul (s.y w)))
  have h2 := nG_mul p.2 (s.y w)
  have h3 := nG_mul p.1 (s.z w)
  have h4 := Nat.mul_le_mul (Nat.le_refl (nG p.1)) h0
  have h5 := Nat.mul_le_mul (Nat.le_refl (nG p.2)) (y_bd hw hs)
  have h6 := Nat.mul_le_mul (Nat.le_refl (nG p.1)) (z_bd hw hs)
  have h7 := nG_add (p.1.mul ((GI.mk 1 0).add ((s.z w).mul (s.y w)))) (p.2.mul (s.y w))
  have h8 := nG_add (p.1.mul (s.z w)) p.2
  unfold rowStep
  simp only
  omega
theorem fold_bd {w : Int} (hw : 0 ≤ w ∧ w ≤ 6) : ∀ (l : List Sec) (p : GI × GI) (B : Nat), (∀ s ∈ l, secOk s) → nG p.1 + nG p.2 ≤ B → nG (l.foldl (rowStep w) p).1 + nG (l.foldl (rowStep w) p).2 ≤ 438 ^ l.length * B
  | [], p, B, _, h => by simpa using h
  | s :: r, p, B, hs, h => by
    rw [List.foldl_cons, List.length_cons, Nat.pow_succ]
    have h1 := step_bd hw (hs s (by simp)) p
    have h2 := fold_bd hw r (rowStep w p s) (438 * B) (fun x hx => hs x (by simp [hx])) (Nat.le_trans h1 (Nat.mul_le_mul (Nat.le_refl _) h))
    rw [Nat.mul_assoc]; exact h2
/-- The first row behind so many sections is small. -/
theorem row_bd {w : Int} (hw : 0 ≤ w ∧ w ≤ 6) {l : List Sec} (hs : ∀ s ∈ l, secOk s) (hl : l.length ≤ 3) : nG (l.foldl (rowStep w) (⟨1, 0⟩, ⟨0, 0⟩)).1 + nG (l.foldl (rowStep w) (⟨1, 0⟩, ⟨0, 0⟩)).2 ≤ 84027672 := by
  have h := fold_bd hw l (⟨1, 0⟩, ⟨0, 0⟩) 1 hs (by decide)
  have h2 : 438 ^ l.length ≤ 438 ^ 3 := Nat.pow_le_pow_right (by omega) hl
  have e : (438 : Nat) ^ 3 = 84027672 := by decide
  omega
end Go.Proofs.YtkphbibonagkfaaGreat

/- The inverse response: the program's function. -/
namespace Go.Proofs.YtkphbibonagkfaaGreat
open Go.RowKit
set_option linter.unusedVariables false

def sOf (p : T3) : Sec := ⟨p.x, p.y, p.z⟩
theorem sec_ok {p : T3} (h : secB p = true) : secOk (sOf p) := by
  simp only [secB, Bool.and_eq_true, wi_iff] at h
  exact ⟨h.1.1, h.1.2, h.2⟩
theorem run_cmul (w : World) {a b c d x y : Nat} (t : TypeId) (h : cMulBits a b c d = some (x, y)) : (binOp .mul t (.complex .f64 a b) (.complex .f64 c d)).run Tryz.prog w = .ok (.complex .f64 x y) w := run_complex_mul w t a b c d x y h
theorem run_cadd (w : World) {a b c d x y : Nat} (t : TypeId) (h : cSumBits .add .f64 a b c d = some (x, y)) : (binOp .add t (.complex .f64 a b) (.complex .f64 c d)).run Tryz.prog w = .ok (.complex .f64 x y) w := run_complex_sum w .add (.inl rfl) t .f64 a b c d x y h
/-- The first row behind so many sections. -/
def rowAt (w : Int) (l : List T3) (k : Nat) : GI × GI := ((l.take k).map sOf).foldl (rowStep w) (⟨1, 0⟩, ⟨0, 0⟩)
theorem rowAt_snoc (w : Int) {l : List T3} {k : Nat} {p : T3} (h : l[k]? = some p) : rowAt w l (k + 1) = rowStep w (rowAt w l k) (sOf p) := by
  unfold rowAt
  rw [List.take_add_one, h]; simp
set_option maxHeartbeats 2000000 in
set_option maxRecDepth 100000 in
theorem response_any (l : List T3) (f : Int) (a : Option Addr) (n c : Nat) (w : World) (hl : T3R w a n l) (hn : n ≤ 3) (hs : ∀ p ∈ l, secB p = true) (hf : 0 ≤ f ∧ f ≤ 6) :
    Calls Tryz.prog 106 #[.agg #[.slice a n c], .int .i64 f] w fun e' w' => e' = .returned (.agg #[.int .i64 (respG f (l.map sOf)).re, .int .i64 (respG f (l.map sOf)).im]) ∧ Below w.heap.size w w' := by
  have HL := Lib.hid hl
  have HS := Lib.hid hs
  have hlen := hl.len
  obtain ⟨R, hR⟩ : ∃ R, R = respG f (l.map sOf) := ⟨_, rfl⟩
  have HR := Lib.hid (hR.trans (show respG f (l.map sOf) = (rowAt f l n).1 by unfold respG rowAt; rw [List.take_of_length_le (by omega)]))
  have HLEN := Lib.hid hlen
  rw [← hR]
  clear hl hs hlen hR
  go_enter Tryz.func106, Tryz.ntmps106
  go_wp2_with fail
  generalize hW : World.alloc _ _ = w5
  have hb5 : Below w.heap.size w w5 := by rw [← hW]; (repeat' (first | (with_reducible exact Below.refl _ _) | (with_reducible assumption) | (with_reducible refine Below.drewN ?_ _) | (with_reducible refine Below.alloc ?_ ?_ _) | (with_reducible refine Below.drew ?_) | (with_reducible refine Below.setCell ?_ ?_ _) | (with_reducible refine Below.step (by assumption) ?_ ?_) | (with_reducible exact And.left (by assumption)) | go_size))
  have r0 : w5.cell? ⟨w.heap.size + 1, 0, none⟩ = some (.int .i64 0) := by { rw [← hW]; clear hW; go_simp }
  have r1 : w5.cell? ⟨w.heap.size + 1, 1, none⟩ = some (.int .i64 0) := by { rw [← hW]; clear hW; go_simp }
  have g0 : w5.frozen? ⟨w.heap.size + 1, 0, none⟩ = false := by { rw [← hW]; clear hW; go_simp }
  have g1 : w5.frozen? ⟨w.heap.size + 1, 1, none⟩ = false := by { rw [← hW]; clear hW; go_simp }
  have lz : w.heap.size + 1 < w5.heap.size := by { rw [← hW]; clear hW; simp }
  have HB5 := Lib.hid hb5
  clear hW hb5
  go_loopw [5, 6, 14] (fun va vb i wr => ∃ (k a1 a2 b1 b2 : Nat), i = .int .i64 k ∧ k ≤ n ∧ va = .complex .f64 a1 a2 ∧ vb = .complex .f64 b1 b2 ∧ Hid (CG a1 a2 (rowAt f l k).1) ∧ Hid (CG b1 b2 (rowAt f l k).2) ∧ Hid (Below w5.heap.size w5 wr)) (fun _ _ i _ => n - (intOf i).toNat)
  case atStart => exact ⟨0, _, _, _, _, rfl, Nat.zero_le _, rfl, rfl, Lib.hid cg_one, Lib.hid cg_zero, Lib.hid (Below.refl _ _)⟩
  case round =>
    obtain ⟨k, a1, a2, b1, b2, rfl, hk, rfl, rfl, hA, hB, hW⟩ := hrel
    have i0 : (0 : Int) ≤ (k : Int) := by omega
    by_cases hlt : k < n
    · have HBW := Lib.hid (HB5.out.trans (hW.out.mono HB5.out.size))
      obtain ⟨b, o, rfl, hb, hc⟩ := (HL.out.below HBW.out).addr (by omega)
      obtain ⟨⟨x, y, z⟩, hx⟩ := ER.get HL.out hlt
      obtain ⟨q0, q1, q2⟩ := hc k _ hx
      have hsb := HS.out _ (List.mem_of_getElem? hx)
      have hok := sec_ok hsb
      have hsn := rowAt_snoc f hx
      have hbd := row_bd (w := f) hf (l := (l.take k).map sOf) (fun s hs => by
        obtain ⟨p, hp, rfl⟩ := List.mem_map.1 hs
        exact sec_ok (HS.out p (List.mem_of_mem_take hp))) (by rw [List.length_map, List.length_take]; omega)
      have hp : rowAt f l k = (rowAt f l k) := rfl
      obtain ⟨⟨A, B⟩, hAB⟩ : ∃ p, p = rowAt f l k := ⟨_, rfl⟩
      have hbd' : nG A + nG B ≤ 84027672 := by
        have : ((l.take k).map sOf).foldl (rowStep f) (⟨1, 0⟩, ⟨0, 0⟩) = (A, B) := hAB.symm
        rw [this] at hbd; exact hbd
      rw [← hAB] at hA hB hsn
      simp only at hA hB
      unfold rowStep at hsn
      simp only at hsn
      have h0 := zy_bd hf hok
      have hz := z_bd hf hok
      have hy := y_bd hf hok
      have hxb : (0 ≤ x ∧ x ≤ 5) ∧ (0 ≤ y ∧ y ≤ 3) ∧ (0 ≤ z ∧ z ≤ 3) := hok
      have hfy := Int.mul_le_mul hf.2 hxb.2.1.2 hxb.2.1.1 (by omega)
      have hfz := Int.mul_le_mul hf.2 hxb.2.2.2 hxb.2.2.1 (by omega)
      have hfy0 := Int.mul_nonneg hf.1 hxb.2.1.1
      have hfz0 := Int.mul_nonneg hf.1 hxb.2.2.1
      obtain ⟨zx, e1⟩ : ∃ v, floatOfInt .f64 x = v := ⟨_, rfl⟩
      obtain ⟨zy, e2⟩ : ∃ v, floatOfInt .f64 (f * y) = v := ⟨_, rfl⟩
      obtain ⟨yz, e3⟩ : ∃ v, floatOfInt .f64 (f * z) = v := ⟨_, rfl⟩
      have hcz : CG zx zy ((sOf ⟨x, y, z⟩).z f) := ⟨by rw [← e1]; exact rd_of x (by omega), by rw [← e2]; exact rd_of (f * y) (by omega)⟩
      have hcy : CG 0 yz ((sOf ⟨x, y, z⟩).y f) := ⟨rd_zero, by rw [← e3]; exact rd_of (f * z) (by omega)⟩
      generalize (sOf ⟨x, y, z⟩).z f = Z at *
      generalize (sOf ⟨x, y, z⟩).y f = Y at *
      have n1 := Nat.mul_le_mul hz hy
      obtain ⟨m1, m2, p1, g1'⟩ := cg_mul hcz hcy (by omega)
      obtain ⟨s1, s2, p2, g2'⟩ := cg_add cg_one g1' (by have : nG (GI.mk 1 0) = 1 := rfl; omega)
      have n2 := Nat.mul_le_mul (show nG A ≤ 84027672 by omega) h0.2
      obtain ⟨t1, t2, p3, g3'⟩ := cg_mul hA.out g2' (by omega)
      have n3 := Nat.mul_le_mul (show nG B ≤ 84027672 by omega) hy
      obtain ⟨u1, u2, p4, g4'⟩ := cg_mul hB.out hcy (by omega)
      have n4 := nG_mul A ((GI.mk 1 0).add (Z.mul Y))
      have n5 := nG_mul B Y
      obtain ⟨v1, v2, p5, g5'⟩ := cg_add g3' g4' (by omega)
      have n6 := Nat.mul_le_mul (show nG A ≤ 84027672 by omega) hz
      obtain ⟨x1, x2, p6, g6'⟩ := cg_mul hA.out hcz (by omega)
      have n7 := nG_mul A Z
      obtain ⟨y1, y2, p7, g7'⟩ := cg_add g6' hB.out (by omega)
      have c1 := fun w' t => run_cmul w' t p1
      have c2 := fun w' t => run_cadd w' t p2
      have c3 := fun w' t => run_cmul w' t p3
      have c4 := fun w' t => run_cmul w' t p4
      have c5 := fun w' t => run_cadd w' t p5
      have c6 := fun w' t => run_cmul w' t p6
      have c7 := fun w' t => run_cadd w' t p7
      have G5 := Lib.hid (show CG v1 v2 (rowAt f l (k + 1)).1 by rw [hsn]; exact g5')
      have G7 := Lib.hid (show CG y1 y2 (rowAt f l (k + 1)).2 by rw [hsn]; exact g7')
      clear p1 p2 p3 p4 p5 p6 p7 g1' g2' g3' g4' g5' g6' g7' n1 n2 n3 n4 n5 n6 n7 h0 hz hy hbd hbd' hcz hcy hsn hAB hp hx hc hok hsb hA hB
      have i1 : (k : Int) < (n : Int) := by omega
      go_wp2_with fail
      go_roundw
      case rel => exact ⟨k + 1, v1, v2, y1, y2, by go_num, by omega, rfl, rfl, G5, G7, Lib.hid (hW.out.trans (Below.mono (show Below wr.heap.size wr _ by (repeat' (first | (with_reducible exact Below.refl _ _) | (with_reducible assumption) | (with_reducible refine Below.drewN ?_ _) | (with_reducible refine Below.alloc ?_ ?_ _) | (with_reducible refine Below.drew ?_) | (with_reducible refine Below.setCell ?_ ?_ _) | (with_reducible refine Below.step (by assumption) ?_ ?_) | (with_reducible exact And.left (by assumption)) | go_size))) hW.out.size))⟩
      case measure => simp [intOf]; omega
    · obtain rfl : n = k := by omega
      have hG := hA.out
      rw [← HR.out] at hG
      have hbd := row_bd (w := f) hf (l := (l.take n).map sOf) (fun s hs => by
        obtain ⟨p, hp, rfl⟩ := List.mem_map.1 hs
        exact sec_ok (HS.out p (List.mem_of_mem_take hp))) (by rw [List.length_map, List.length_take]; omega)
      have hbr : nG R ≤ 84027672 := by
        have : R = (((l.take n).map sOf).foldl (rowStep f) (⟨1, 0⟩, ⟨0, 0⟩)).1 := HR.out
        rw [this]; omega
      obtain ⟨re, im⟩ := R
      have hbr' : re.natAbs + im.natAbs ≤ 84027672 := hbr
      have k1 := fun w' => run_convert_float_int (P := Tryz.prog) w' 217 3 .f64 .i64 a1 re (by kernel_rfl) Tryz.underlying3 (rd_int hG.1 (by show re.natAbs < _; omega))
      have k2 := fun w' => run_convert_float_int (P := Tryz.prog) w' 217 3 .f64 .i64 a2 im (by kernel_rfl) Tryz.underlying3 (rd_int hG.2 (by show im.natAbs < _; omega))
      have hbw := hW.out
      have r0d : wr.cell? ⟨w.heap.size + 1, 0, none⟩ = some (.int .i64 0) := by { rw [cellB hbw _ _ (by first | (simp; done) | (simp; omega) | omega)]; all_goals (first | assumption | go_simp) }; have r1d : wr.cell? ⟨w.heap.size + 1, 1, none⟩ = some (.int .i64 0) := by { rw [cellB hbw _ _ (by first | (simp; done) | (simp; omega) | omega)]; all_goals (first | assumption | go_simp) }; have g0d : wr.frozen? ⟨w.heap.size + 1, 0, none⟩ = false := by { rw [frozenB hbw _ _ (by first | (simp; done) | (simp; omega) | omega)]; all_goals (first | assumption | go_simp) }; have g1d : wr.frozen? ⟨w.heap.size + 1, 1, none⟩ = false := by { rw [frozenB hbw _ _ (by first | (simp; done) | (simp; omega) | omega)]; all_goals (first | assumption | go_simp) }
      have HBW := Lib.hid (HB5.out.trans (hW.out.mono HB5.out.size))
      have l9 : w.heap.size + 1 < wr.heap.size := by have := hW.out.size; omega
      clear hG hbd hbr hbr' hA hB hW HR hbw r0 r1 g0 g1
      go_wp2_with fail
      generalize hWW : World.setCell _ _ _ = w9
      have x0 : w9.cell? ⟨w.heap.size + 1, 0, none⟩ = some (.int .i64 re) := by { rw [← hWW]; clear hWW; go_simp }
      have x1 : w9.cell? ⟨w.heap.size + 1, 1, none⟩ = some (.int .i64 im) := by { rw [← hWW]; clear hWW; go_simp }
      have hb9 : Below w.heap.size w w9 := by { rw [← hWW]; have := HBW.out; (repeat' (first | (with_reducible exact Below.refl _ _) | (with_reducible assumption) | (with_reducible refine Below.drewN ?_ _) | (with_reducible refine Below.alloc ?_ ?_ _) | (with_reducible refine Below.drew ?_) | (with_reducible refine Below.setCell ?_ ?_ _) | (with_reducible refine Below.step (by assumption) ?_ ?_) | (with_reducible exact And.left (by assumption)) | go_size)) }
      clear hWW
      exact bodyPost_ret (v := .agg #[.int .i64 re, .int .i64 im]) (by simp [results, Tryz.results106, go_sem, x0, x1]) rfl ⟨rfl, hb9⟩
end Go.Proofs.YtkphbibonagkfaaGreat

/- Lines and states: errors of a state, a step, the energy. -/
namespace Go.Proofs.YtkphbibonagkfaaGreat
open Go.RowKit
set_option linter.unusedVariables false

end Go.Proofs.YtkphbibonagkfaaGreat

/- Copies of lines and states, states without waves, equality of states. -/
namespace Go.Proofs.YtkphbibonagkfaaGreat
open Go.RowKit
set_option linter.unusedVariables false

theorem makeInts (P : Program) (w : World) (t e : TypeId) (ht : P.underlying t = some (.slice e)) (hi : (P.info? e).map (fun i => (i.zero, i.size, i.bytes)) = some (some (.int .i64 0), 1, 8)) (n : Nat) (hn : n ≤ 100000) :
    (Instr.makeSlice t (.int .i64 n) (.int .i64 n)).run P w = .ok (.slice (some ⟨w.heap.size, 0, none⟩) n n) (w.alloc (.cells (madeCells #[.int .i64 0] n) e)) := by
  obtain ⟨i, hi1, hi2, hi3, hi4⟩ := info_parts hi
  have hr := run_make (P := P) w t e i _ ht hi1 hi2 .i64 .i64 n n (by omega) (Int.le_refl _) (by rw [hi4]; omega) (by omega)
  simp only [Int.toNat_natCast, hi3, Nat.mul_one] at hr
  exact hr

end Go.Proofs.YtkphbibonagkfaaGreat

/- Which ladders are valid. -/
namespace Go.Proofs.YtkphbibonagkfaaGreat
open Go.RowKit
set_option linter.unusedVariables false

def ok3 (x : Int × Int × Int) : Bool := wi x.1 1 100 && wi x.2.1 0 100 && wi x.2.2 1 1000
def ladAll (s e t : List Int) (k : Nat) : Bool := ((s.drop k).zip ((e.drop k).zip (t.drop k))).all ok3
theorem ladAll_step (s e t : List Int) (k : Nat) (h1 : k < s.length) (h2 : k < e.length) (h3 : k < t.length) :
    ladAll s e t k = (wi (s.getD k 0) 1 100 && wi (e.getD k 0) 0 100 && wi (t.getD k 0) 1 1000 && ladAll s e t (k + 1)) := by
  unfold ladAll
  rw [drop_at s k 0 h1, drop_at e k 0 h2, drop_at t k 0 h3]
  rfl
theorem ladAll_end (s e t : List Int) : ladAll s e t s.length = true := by
  unfold ladAll; simp
/-- The error of a ladder. -/
def ladErr (s e t : List Int) : Int :=
  if 0 < s.length ∧ e.length = s.length ∧ t.length = s.length then (if s.length ≤ 6 then unl (ladAll s e t 0) 2 else 8) else 10

end Go.Proofs.YtkphbibonagkfaaGreat

/- The energy of a state. -/
namespace Go.Proofs.YtkphbibonagkfaaGreat
open Go.RowKit
set_option linter.unusedVariables false

end Go.Proofs.YtkphbibonagkfaaGreat
