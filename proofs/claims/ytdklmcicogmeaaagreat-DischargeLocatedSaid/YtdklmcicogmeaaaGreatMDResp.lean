import Derived.Test.YtdklmcicogmeaaaGreatDNet
import Derived.Test.YtdklmcicogmeaaaGreatMDRec
import Derived.Test.YtdklmcicogmeaaaGreatMDSub
import Derived.Test.YtdklmcicogmeaaaGreatMDSubs
import Derived.Test.YtdklmcicogmeaaaGreatMFInt
import Derived.Test.YtdklmcicogmeaaaGreatMPlain0
/- The inverse response: the program's function. -/
namespace Go.Proofs.YtdklmcicogmeaaaGreat
open Go.RowKit
set_option linter.unusedVariables false

def sOf (p : T3) : Sec := ⟨p.x, p.y, p.z⟩
theorem sec_ok {p : T3} (h : secB p = true) : secOk (sOf p) := by
  simp only [secB, Bool.and_eq_true, wi_iff] at h
  exact ⟨h.1.1, h.1.2, h.2⟩
theorem run_cmul (w : World) {a b c d x y : Nat} (t : TypeId) (h : cMulBits a b c d = some (x, y)) : (binOp .mul t (.complex .f64 a b) (.complex .f64 c d)).run Tryz.prog w = .ok (.complex .f64 x y) w := run_complex_mul w t a b c d x y h
theorem run_cadd (w : World) {a b c d x y : Nat} (t : TypeId) (h : cSumBits .add .f64 a b c d = some (x, y)) : (binOp .add t (.complex .f64 a b) (.complex .f64 c d)).run Tryz.prog w = .ok (.complex .f64 x y) w := run_complex_sum w .add (.inl rfl) t .f64 a b c d x y h
/-- The first row behind so many sections. -/
def rowAt (w : Int) (l : List T3) (k : Nat) : GI × GI := ((l.take k).map sOf).foldl (rowStep w) (⟨1, 0⟩, ⟨0, 0⟩)
theorem rowAt_snoc (w : Int) {l : List T3} {k : Nat} {p : T3} (h : l[k]? = some p) : rowAt w l (k + 1) = rowStep w (rowAt w l k) (sOf p) := by
  unfold rowAt
  rw [List.take_add_one, h]; simp
set_option maxHeartbeats 2000000 in
set_option maxRecDepth 100000 in
theorem response_any (l : List T3) (f : Int) (a : Option Addr) (n c : Nat) (w : World) (hl : T3R w a n l) (hn : n ≤ 3) (hs : ∀ p ∈ l, secB p = true) (hf : 0 ≤ f ∧ f ≤ 6) :
    Calls Tryz.prog 126 #[.agg #[.slice a n c], .int .i64 f] w fun e' w' => e' = .returned (.agg #[.int .i64 (respG f (l.map sOf)).re, .int .i64 (respG f (l.map sOf)).im]) ∧ Below w.heap.size w w' := by
  have HL := Lib.hid hl
  have HS := Lib.hid hs
  have hlen := hl.len
  obtain ⟨R, hR⟩ : ∃ R, R = respG f (l.map sOf) := ⟨_, rfl⟩
  have HR := Lib.hid (hR.trans (show respG f (l.map sOf) = (rowAt f l n).1 by unfold respG rowAt; rw [List.take_of_length_le (by omega)]))
  have HLEN := Lib.hid hlen
  rw [← hR]
  clear hl hs hlen hR
  go_enter Tryz.func126, Tryz.ntmps126
  go_wp2_with fail
  generalize hW : World.alloc _ _ = w5
  have hb5 : Below w.heap.size w w5 := by rw [← hW]; (repeat' (first | (with_reducible exact Below.refl _ _) | (with_reducible assumption) | (with_reducible refine Below.drewN ?_ _) | (with_reducible refine Below.alloc ?_ ?_ _) | (with_reducible refine Below.drew ?_) | (with_reducible refine Below.setCell ?_ ?_ _) | (with_reducible refine Below.step (by assumption) ?_ ?_) | (with_reducible exact And.left (by assumption)) | go_size))
  have r0 : w5.cell? ⟨w.heap.size + 1, 0, none⟩ = some (.int .i64 0) := by { rw [← hW]; clear hW; go_simp }
  have r1 : w5.cell? ⟨w.heap.size + 1, 1, none⟩ = some (.int .i64 0) := by { rw [← hW]; clear hW; go_simp }
  have g0 : w5.frozen? ⟨w.heap.size + 1, 0, none⟩ = false := by { rw [← hW]; clear hW; go_simp }
  have g1 : w5.frozen? ⟨w.heap.size + 1, 1, none⟩ = false := by { rw [← hW]; clear hW; go_simp }
  have lz : w.heap.size + 1 < w5.heap.size := by { rw [← hW]; clear hW; simp }
  have HB5 := Lib.hid hb5
  clear hW hb5
  go_loopw [5, 6, 14] (fun va vb i wr => ∃ (k a1 a2 b1 b2 : Nat), i = .int .i64 k ∧ k ≤ n ∧ va = .complex .f64 a1 a2 ∧ vb = .complex .f64 b1 b2 ∧ Hid (CG a1 a2 (rowAt f l k).1) ∧ Hid (CG b1 b2 (rowAt f l k).2) ∧ Hid (Below w5.heap.size w5 wr)) (fun _ _ i _ => n - (intOf i).toNat)
  case atStart => exact ⟨0, _, _, _, _, rfl, Nat.zero_le _, rfl, rfl, Lib.hid cg_one, Lib.hid cg_zero, Lib.hid (Below.refl _ _)⟩
  case round =>
    obtain ⟨k, a1, a2, b1, b2, rfl, hk, rfl, rfl, hA, hB, hW⟩ := hrel
    have i0 : (0 : Int) ≤ (k : Int) := by omega
    by_cases hlt : k < n
    · have HBW := Lib.hid (HB5.out.trans (hW.out.mono HB5.out.size))
      obtain ⟨b, o, rfl, hb, hc⟩ := (HL.out.below HBW.out).addr (by omega)
      obtain ⟨⟨x, y, z⟩, hx⟩ := ER.get HL.out hlt
      obtain ⟨q0, q1, q2⟩ := hc k _ hx
      have hsb := HS.out _ (List.mem_of_getElem? hx)
      have hok := sec_ok hsb
      have hsn := rowAt_snoc f hx
      have hbd := row_bd (w := f) hf (l := (l.take k).map sOf) (fun s hs => by
        obtain ⟨p, hp, rfl⟩ := List.mem_map.1 hs
        exact sec_ok (HS.out p (List.mem_of_mem_take hp))) (by rw [List.length_map, List.length_take]; omega)
      have hp : rowAt f l k = (rowAt f l k) := rfl
      obtain ⟨⟨A, B⟩, hAB⟩ : ∃ p, p = rowAt f l k := ⟨_, rfl⟩
      have hbd' : nG A + nG B ≤ 84027672 := by
        have : ((l.take k).map sOf).foldl (rowStep f) (⟨1, 0⟩, ⟨0, 0⟩) = (A, B) := hAB.symm
        rw [this] at hbd; exact hbd
      rw [← hAB] at hA hB hsn
      simp only at hA hB
      unfold rowStep at hsn
      simp only at hsn
      have h0 := zy_bd hf hok
      have hz := z_bd hf hok
      have hy := y_bd hf hok
      have hxb : (0 ≤ x ∧ x ≤ 5) ∧ (0 ≤ y ∧ y ≤ 3) ∧ (0 ≤ z ∧ z ≤ 3) := hok
      have hfy := Int.mul_le_mul hf.2 hxb.2.1.2 hxb.2.1.1 (by omega)
      have hfz := Int.mul_le_mul hf.2 hxb.2.2.2 hxb.2.2.1 (by omega)
      have hfy0 := Int.mul_nonneg hf.1 hxb.2.1.1
      have hfz0 := Int.mul_nonneg hf.1 hxb.2.2.1
      obtain ⟨zx, e1⟩ : ∃ v, floatOfInt .f64 x = v := ⟨_, rfl⟩
      obtain ⟨zy, e2⟩ : ∃ v, floatOfInt .f64 (f * y) = v := ⟨_, rfl⟩
      obtain ⟨yz, e3⟩ : ∃ v, floatOfInt .f64 (f * z) = v := ⟨_, rfl⟩
      have hcz : CG zx zy ((sOf ⟨x, y, z⟩).z f) := ⟨by rw [← e1]; exact rd_of x (by omega), by rw [← e2]; exact rd_of (f * y) (by omega)⟩
      have hcy : CG 0 yz ((sOf ⟨x, y, z⟩).y f) := ⟨rd_zero, by rw [← e3]; exact rd_of (f * z) (by omega)⟩
      generalize (sOf ⟨x, y, z⟩).z f = Z at *
      generalize (sOf ⟨x, y, z⟩).y f = Y at *
      have n1 := Nat.mul_le_mul hz hy
      obtain ⟨m1, m2, p1, g1'⟩ := cg_mul hcz hcy (by omega)
      obtain ⟨s1, s2, p2, g2'⟩ := cg_add cg_one g1' (by have : nG (GI.mk 1 0) = 1 := rfl; omega)
      have n2 := Nat.mul_le_mul (show nG A ≤ 84027672 by omega) h0.2
      obtain ⟨t1, t2, p3, g3'⟩ := cg_mul hA.out g2' (by omega)
      have n3 := Nat.mul_le_mul (show nG B ≤ 84027672 by omega) hy
      obtain ⟨u1, u2, p4, g4'⟩ := cg_mul hB.out hcy (by omega)
      have n4 := nG_mul A ((GI.mk 1 0).add (Z.mul Y))
      have n5 := nG_mul B Y
      obtain ⟨v1, v2, p5, g5'⟩ := cg_add g3' g4' (by omega)
      have n6 := Nat.mul_le_mul (show nG A ≤ 84027672 by omega) hz
      obtain ⟨x1, x2, p6, g6'⟩ := cg_mul hA.out hcz (by omega)
      have n7 := nG_mul A Z
      obtain ⟨y1, y2, p7, g7'⟩ := cg_add g6' hB.out (by omega)
      have c1 := fun w' t => run_cmul w' t p1
      have c2 := fun w' t => run_cadd w' t p2
      have c3 := fun w' t => run_cmul w' t p3
      have c4 := fun w' t => run_cmul w' t p4
      have c5 := fun w' t => run_cadd w' t p5
      have c6 := fun w' t => run_cmul w' t p6
      have c7 := fun w' t => run_cadd w' t p7
      have G5 := Lib.hid (show CG v1 v2 (rowAt f l (k + 1)).1 by rw [hsn]; exact g5')
      have G7 := Lib.hid (show CG y1 y2 (rowAt f l (k + 1)).2 by rw [hsn]; exact g7')
      clear p1 p2 p3 p4 p5 p6 p7 g1' g2' g3' g4' g5' g6' g7' n1 n2 n3 n4 n5 n6 n7 h0 hz hy hbd hbd' hcz hcy hsn hAB hp hx hc hok hsb hA hB
      have i1 : (k : Int) < (n : Int) := by omega
      go_wp2_with fail
      go_roundw
      case rel => exact ⟨k + 1, v1, v2, y1, y2, by go_num, by omega, rfl, rfl, G5, G7, Lib.hid (hW.out.trans (Below.mono (show Below wr.heap.size wr _ by (repeat' (first | (with_reducible exact Below.refl _ _) | (with_reducible assumption) | (with_reducible refine Below.drewN ?_ _) | (with_reducible refine Below.alloc ?_ ?_ _) | (with_reducible refine Below.drew ?_) | (with_reducible refine Below.setCell ?_ ?_ _) | (with_reducible refine Below.step (by assumption) ?_ ?_) | (with_reducible exact And.left (by assumption)) | go_size))) hW.out.size))⟩
      case measure => simp [intOf]; omega
    · obtain rfl : n = k := by omega
      have hG := hA.out
      rw [← HR.out] at hG
      have hbd := row_bd (w := f) hf (l := (l.take n).map sOf) (fun s hs => by
        obtain ⟨p, hp, rfl⟩ := List.mem_map.1 hs
        exact sec_ok (HS.out p (List.mem_of_mem_take hp))) (by rw [List.length_map, List.length_take]; omega)
      have hbr : nG R ≤ 84027672 := by
        have : R = (((l.take n).map sOf).foldl (rowStep f) (⟨1, 0⟩, ⟨0, 0⟩)).1 := HR.out
        rw [this]; omega
      obtain ⟨re, im⟩ := R
      have hbr' : re.natAbs + im.natAbs ≤ 84027672 := hbr
      have k1 := fun w' => run_convert_float_int (P := Tryz.prog) w' 221 3 .f64 .i64 a1 re (by kernel_rfl) Tryz.underlying3 (rd_int hG.1 (by show re.natAbs < _; omega))
      have k2 := fun w' => run_convert_float_int (P := Tryz.prog) w' 221 3 .f64 .i64 a2 im (by kernel_rfl) Tryz.underlying3 (rd_int hG.2 (by show im.natAbs < _; omega))
      have hbw := hW.out
      have r0d : wr.cell? ⟨w.heap.size + 1, 0, none⟩ = some (.int .i64 0) := by { rw [cellB hbw _ _ (by first | (simp; done) | (simp; omega) | omega)]; all_goals (first | assumption | go_simp) }; have r1d : wr.cell? ⟨w.heap.size + 1, 1, none⟩ = some (.int .i64 0) := by { rw [cellB hbw _ _ (by first | (simp; done) | (simp; omega) | omega)]; all_goals (first | assumption | go_simp) }; have g0d : wr.frozen? ⟨w.heap.size + 1, 0, none⟩ = false := by { rw [frozenB hbw _ _ (by first | (simp; done) | (simp; omega) | omega)]; all_goals (first | assumption | go_simp) }; have g1d : wr.frozen? ⟨w.heap.size + 1, 1, none⟩ = false := by { rw [frozenB hbw _ _ (by first | (simp; done) | (simp; omega) | omega)]; all_goals (first | assumption | go_simp) }
      have HBW := Lib.hid (HB5.out.trans (hW.out.mono HB5.out.size))
      have l9 : w.heap.size + 1 < wr.heap.size := by have := hW.out.size; omega
      clear hG hbd hbr hbr' hA hB hW HR hbw r0 r1 g0 g1
      go_wp2_with fail
      generalize hWW : World.setCell _ _ _ = w9
      have x0 : w9.cell? ⟨w.heap.size + 1, 0, none⟩ = some (.int .i64 re) := by { rw [← hWW]; clear hWW; go_simp }
      have x1 : w9.cell? ⟨w.heap.size + 1, 1, none⟩ = some (.int .i64 im) := by { rw [← hWW]; clear hWW; go_simp }
      have hb9 : Below w.heap.size w w9 := by { rw [← hWW]; have := HBW.out; (repeat' (first | (with_reducible exact Below.refl _ _) | (with_reducible assumption) | (with_reducible refine Below.drewN ?_ _) | (with_reducible refine Below.alloc ?_ ?_ _) | (with_reducible refine Below.drew ?_) | (with_reducible refine Below.setCell ?_ ?_ _) | (with_reducible refine Below.step (by assumption) ?_ ?_) | (with_reducible exact And.left (by assumption)) | go_size)) }
      clear hWW
      exact bodyPost_ret (v := .agg #[.int .i64 re, .int .i64 im]) (by simp [results, Tryz.results126, go_sem, x0, x1]) rfl ⟨rfl, hb9⟩
end Go.Proofs.YtdklmcicogmeaaaGreat

/- Lines and states: errors of a state, a step, the energy. -/
namespace Go.Proofs.YtdklmcicogmeaaaGreat
open Go.RowKit
set_option linter.unusedVariables false

end Go.Proofs.YtdklmcicogmeaaaGreat

/- Copies of lines and states, states without waves, equality of states. -/
namespace Go.Proofs.YtdklmcicogmeaaaGreat
open Go.RowKit
set_option linter.unusedVariables false

theorem makeInts (P : Program) (w : World) (t e : TypeId) (ht : P.underlying t = some (.slice e)) (hi : (P.info? e).map (fun i => (i.zero, i.size, i.bytes)) = some (some (.int .i64 0), 1, 8)) (n : Nat) (hn : n ≤ 100000) :
    (Instr.makeSlice t (.int .i64 n) (.int .i64 n)).run P w = .ok (.slice (some ⟨w.heap.size, 0, none⟩) n n) (w.alloc (.cells (madeCells #[.int .i64 0] n) e)) := by
  obtain ⟨i, hi1, hi2, hi3, hi4⟩ := info_parts hi
  have hr := run_make (P := P) w t e i _ ht hi1 hi2 .i64 .i64 n n (by omega) (Int.le_refl _) (by rw [hi4]; omega) (by omega)
  simp only [Int.toNat_natCast, hi3, Nat.mul_one] at hr
  exact hr

end Go.Proofs.YtdklmcicogmeaaaGreat

/- Which ladders are valid. -/
namespace Go.Proofs.YtdklmcicogmeaaaGreat
open Go.RowKit
set_option linter.unusedVariables false

def ok3 (x : Int × Int × Int) : Bool := wi x.1 1 100 && wi x.2.1 0 100 && wi x.2.2 1 1000
def ladAll (s e t : List Int) (k : Nat) : Bool := ((s.drop k).zip ((e.drop k).zip (t.drop k))).all ok3
theorem ladAll_step (s e t : List Int) (k : Nat) (h1 : k < s.length) (h2 : k < e.length) (h3 : k < t.length) :
    ladAll s e t k = (wi (s.getD k 0) 1 100 && wi (e.getD k 0) 0 100 && wi (t.getD k 0) 1 1000 && ladAll s e t (k + 1)) := by
  unfold ladAll
  rw [drop_at s k 0 h1, drop_at e k 0 h2, drop_at t k 0 h3]
  rfl
theorem ladAll_end (s e t : List Int) : ladAll s e t s.length = true := by
  unfold ladAll; simp
/-- The error of a ladder. -/
def ladErr (s e t : List Int) : Int :=
  if 0 < s.length ∧ e.length = s.length ∧ t.length = s.length then (if s.length ≤ 6 then unl (ladAll s e t 0) 2 else 8) else 10

end Go.Proofs.YtdklmcicogmeaaaGreat

/- The energy of a state. -/
namespace Go.Proofs.YtdklmcicogmeaaaGreat
open Go.RowKit
set_option linter.unusedVariables false

end Go.Proofs.YtdklmcicogmeaaaGreat

/- What a step computes: plain lists. -/
namespace Go.Proofs.YtdklmcicogmeaaaGreat

/-- Getting an element. -/
abbrev g0 (l : List Int) (i : Nat) : Int := l.getD i 0
def sB (y f b : List Int) (i : Nat) : Int := (g0 f i * (g0 y i - g0 y (i + 1)) + 2 * g0 b (i + 1) * g0 y (i + 1)).tdiv (g0 y i + g0 y (i + 1))
def sF (y f b : List Int) (i : Nat) : Int := (g0 b (i + 1) * (g0 y (i + 1) - g0 y i) + 2 * g0 f i * g0 y i).tdiv (g0 y i + g0 y (i + 1))
def sV (y f b : List Int) (i : Nat) : Int := (2 * (g0 f i * g0 y i + g0 b (i + 1) * g0 y (i + 1))).tdiv (g0 y i + g0 y (i + 1))
/-- The lists after k junctions; n: the number of sections, m = n - 1. -/
def fwdAt (y f b : List Int) (s : Int) (m k : Nat) : List Int := (s - g0 b 0) :: ((List.range k).map (sF y f b) ++ List.replicate (m - k) 0)
def bckAt (y f b : List Int) (m k : Nat) : List Int := (List.range k).map (sB y f b) ++ List.replicate (m + 1 - k) 0
def volAt (y f b : List Int) (s : Int) (k : Nat) : List Int := s :: (List.range k).map (sV y f b)
def outF (y f b : List Int) (s : Int) : List Int := (s - g0 b 0) :: (List.range (y.length - 1)).map (sF y f b)
def outB (y f b : List Int) (e : Bool) : List Int := (List.range (y.length - 1)).map (sB y f b) ++ [if e then -g0 f (y.length - 1) else g0 f (y.length - 1)]
def outV (y f b : List Int) (s : Int) (e : Bool) : List Int := s :: ((List.range (y.length - 1)).map (sV y f b) ++ [if e then 0 else 2 * g0 f (y.length - 1)])

theorem set_mid {α : Type} (a : List α) (x y : α) (r : List α) (k : Nat) (h : a.length = k) : (a ++ x :: r).set k y = a ++ y :: r := by
  subst h; simp
theorem fwd_len (y f b : List Int) (s : Int) (m k : Nat) (h : k ≤ m) : (fwdAt y f b s m k).length = m + 1 := by simp [fwdAt]; omega
theorem bck_len (y f b : List Int) (m k : Nat) (h : k ≤ m + 1) : (bckAt y f b m k).length = m + 1 := by simp [bckAt]; omega
theorem vol_len (y f b : List Int) (s : Int) (k : Nat) : (volAt y f b s k).length = k + 1 := by simp [volAt]
theorem fwd_set (y f b : List Int) (s : Int) (m k : Nat) (h : k < m) : (fwdAt y f b s m k).set (k + 1) (sF y f b k) = fwdAt y f b s m (k + 1) := by
  unfold fwdAt
  rw [show m - k = (m - (k + 1)) + 1 by omega, List.replicate_succ, List.set_cons_succ, set_mid _ _ _ _ k (by simp), List.range_succ, List.map_append, List.append_assoc]
  rfl
theorem bck_set (y f b : List Int) (m k : Nat) (h : k < m) : (bckAt y f b m k).set k (sB y f b k) = bckAt y f b m (k + 1) := by
  unfold bckAt
  rw [show m + 1 - k = (m + 1 - (k + 1)) + 1 by omega, List.replicate_succ, set_mid _ _ _ _ k (by simp), List.range_succ, List.map_append, List.append_assoc]
  rfl
theorem bck_end (y f b : List Int) (m : Nat) (x : Int) : (bckAt y f b m m).set m x = (List.range m).map (sB y f b) ++ [x] := by
  unfold bckAt
  rw [show m + 1 - m = 0 + 1 by omega, List.replicate_succ, set_mid _ _ _ _ m (by simp)]
  rfl
theorem vol_snoc (y f b : List Int) (s : Int) (k : Nat) : volAt y f b s k ++ [sV y f b k] = volAt y f b s (k + 1) := by
  simp [volAt, List.range_succ]
theorem fwd_end (y f b : List Int) (s : Int) (m : Nat) : fwdAt y f b s m m = (s - g0 b 0) :: (List.range m).map (sF y f b) := by simp [fwdAt]
theorem fwd_start (y f b : List Int) (s : Int) (m : Nat) : (List.replicate (m + 1) (0 : Int)).set 0 (s - g0 b 0) = fwdAt y f b s m 0 := by
  simp [fwdAt, List.replicate_succ]
theorem bck_start (y f b : List Int) (m : Nat) : List.replicate (m + 1) (0 : Int) = bckAt y f b m 0 := by simp [bckAt]
theorem icells_set (l : List Int) (k : Nat) (x : Int) : (l.map (fun n => n)).set k x = l.set k x := by simp
end Go.Proofs.YtdklmcicogmeaaaGreat

/- Plain parts that both steps use. -/
namespace Go.Proofs.YtdklmcicogmeaaaGreat
open Go.RowKit
set_option linter.unusedVariables false

theorem owns_heap {w w' : World} {base n sz : Nat} {e : TypeId} {v : Value} {xs : List Value} (h : w.ownsRow base e sz v n xs) (hh : w'.heap = w.heap) : w'.ownsRow base e sz v n xs := by
  unfold World.ownsRow at *; rw [hh]; exact h
theorem calls_drew_gen {P : Program} {f : FuncId} {args : Array Value} {w : World} {k n : Nat} {v : Value}
    (h : Calls P f args (w.drewN (k + n)) fun e w' => e = .returned v ∧ w.drewN (k + n) = w') : Calls P f args (w.drewN (k + n)) fun e w'' => e = .returned v ∧ ∃ m, w'' = w.drewN (k + m) :=
  h.mono fun _ _ ⟨he, hm⟩ => ⟨he, n, hm.symm⟩
theorem two_new (w7 : World) (a b c : Value) (t t2 : TypeId) : ∃ w8, w8 = (w7.alloc (.cells #[a, b] t)).alloc (.cells #[c] t2) ∧ w8.cell? ⟨w7.heap.size, 0, none⟩ = some a ∧ w8.cell? ⟨w7.heap.size, 1, none⟩ = some b ∧ Below w7.heap.size w7 w8 ∧ w7.heap.size + 1 < w8.heap.size ∧
    w8.ownsRow (w7.heap.size + 1) t2 1 (.slice (some ⟨w7.heap.size + 1, 0, none⟩) 1 1) 1 [c] := by
  refine ⟨_, rfl, by go_simp, by go_simp, by (repeat' (first | (with_reducible exact Below.refl _ _) | (with_reducible assumption) | (with_reducible refine Below.drewN ?_ _) | (with_reducible refine Below.alloc ?_ ?_ _) | (with_reducible refine Below.drew ?_) | (with_reducible refine Below.setCell ?_ ?_ _) | (with_reducible refine Below.step (by assumption) ?_ ?_) | (with_reducible exact And.left (by assumption)) | go_size)), by simp, ?_⟩
  exact owns_lit (cs := #[c]) (by simp) (Nat.le_refl _) (by omega) rfl

theorem icells_set' (l : List Int) (k : Nat) (x : Int) : (icells l).set k (.int .i64 x) = icells (l.set k x) := by simp [icells, List.map_set]

/-- What a step hands out. -/
def StepPost (y f b : List Int) (s : Int) (e : Bool) (n : Nat) (w : World) (e' : Ending) (w' : World) : Prop :=
  Below w.heap.size w w' ∧ ((stErr y (outF y f b s) (outB y f b e) ≠ 0 ∧ e' = .returned (.tuple #[.agg #[.slice none 0 0, .slice none 0 0], .slice none 0 0, .int .i64 22])) ∨
    (stErr y (outF y f b s) (outB y f b e) = 0 ∧ ∃ g1 g2 av cv, e' = .returned (.tuple #[.agg #[.slice (some ⟨g1, 0, none⟩) n n, .slice (some ⟨g2, 0, none⟩) n n], .slice av (n + 1) cv, .int .i64 0]) ∧
      IntsR w' (some ⟨g1, 0, none⟩) n (outF y f b s) ∧ IntsR w' (some ⟨g2, 0, none⟩) n (outB y f b e) ∧ IntsR w' av (n + 1) (outV y f b s e)))

/-- The same, with rows that are new. -/
def StepPost2 (y f b : List Int) (s : Int) (e : Bool) (n : Nat) (w : World) (e' : Ending) (w' : World) : Prop :=
  Below w.heap.size w w' ∧ ((stErr y (outF y f b s) (outB y f b e) ≠ 0 ∧ e' = .returned (.tuple #[.agg #[.slice none 0 0, .slice none 0 0], .slice none 0 0, .int .i64 22])) ∨
    (stErr y (outF y f b s) (outB y f b e) = 0 ∧ ∃ g1 g2 av cv, e' = .returned (.tuple #[.agg #[.slice (some ⟨g1, 0, none⟩) n n, .slice (some ⟨g2, 0, none⟩) n n], .slice av (n + 1) cv, .int .i64 0]) ∧
      w'.ownsRow w.heap.size 3 1 (.slice (some ⟨g1, 0, none⟩) n n) n (icells (outF y f b s)) ∧ w'.ownsRow w.heap.size 3 1 (.slice (some ⟨g2, 0, none⟩) n n) n (icells (outB y f b e)) ∧ w'.ownsRow w.heap.size 3 1 (.slice av (n + 1) cv) (n + 1) (icells (outV y f b s e))))
theorem StepPost2.weak {y f b : List Int} {s : Int} {e : Bool} {n : Nat} {w : World} {e' : Ending} {w' : World} (h : StepPost2 y f b s e n w e' w') : StepPost y f b s e n w e' w' := by
  refine ⟨h.1, h.2.imp id ?_⟩
  rintro ⟨h0, g1, g2, av, cv, rfl, h1, h2, h3⟩
  exact ⟨h0, g1, g2, av, cv, rfl, SlR.of_owns h1, SlR.of_owns h2, SlR.of_owns h3⟩

theorem fin_F {y f b : List Int} {s : Int} {k : Nat} (hy : y.length = k + 1) : fwdAt y f b s k k = outF y f b s := by
  unfold outF; rw [fwd_end, hy]; rfl
theorem fin_B {y f b : List Int} {k : Nat} (e : Bool) (x : Int) (hy : y.length = k + 1) (hx : x = if e then -g0 f k else g0 f k) : (bckAt y f b k k).set k x = outB y f b e := by
  unfold outB; rw [bck_end, hy, hx]; rfl
theorem fin_V {y f b : List Int} {s : Int} {k : Nat} (e : Bool) (x : Int) (hy : y.length = k + 1) (hx : x = if e then 0 else 2 * g0 f k) : volAt y f b s k ++ [x] = outV y f b s e := by
  unfold outV volAt; rw [hy, hx]; rfl
theorem set_twice (l : List Int) (k : Nat) (x y : Int) : (l.set k x).set k y = l.set k y := by simp

end Go.Proofs.YtdklmcicogmeaaaGreat

/- The chain of capacitances: its small functions. -/
namespace Go.Proofs.YtdklmcicogmeaaaGreat
open Go.RowKit
set_option linter.unusedVariables false

/-- The last node whose voltage is not given. -/
def lastOf (n : Nat) (g : Bool) : Int := if g then (n : Int) - 1 else n
/-- The sum of a node's capacitances. -/
def ownOf (s e : List Int) (k : Nat) : Int := if k + 1 < s.length then s.getD k 0 + e.getD k 0 + s.getD (k + 1) 0 else s.getD k 0 + e.getD k 0
end Go.Proofs.YtdklmcicogmeaaaGreat
