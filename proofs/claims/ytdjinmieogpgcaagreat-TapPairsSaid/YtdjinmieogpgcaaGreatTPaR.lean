import Derived.Laws.StructEq
import Derived.Test.YtdjinmieogpgcaaGreatMTRst
/- Pairs: the reference. (Printed by gen_par.py.) -/
namespace Go.Proofs.YtdjinmieogpgcaaGreat
open Go.RowKit Go.Shelf
set_option linter.unusedVariables false
set_option linter.unusedSimpArgs false
theorem ifB (a b : Int) (c : Bool) (w : World) : (if a = b then (Result.ok (Value.bool c) w) else .ok (.bool false) w) = .ok (.bool (a == b && c)) w := by
 by_cases h : a = b <;> simp [h]
theorem eql16 (x0 x1 x2 x3 x4 x5 x6 x7 x8 x9 x10 x11 x12 x13 x14 x15 y0 y1 y2 y3 y4 y5 y6 y7 y8 y9 y10 y11 y12 y13 y14 y15 : Int) (w : World) : (binOp .eql 29 (.agg #[.int .i64 x0, .int .i64 x1, .int .i64 x2, .int .i64 x3, .int .i64 x4, .int .i64 x5, .int .i64 x6, .int .i64 x7, .int .i64 x8, .int .i64 x9, .int .i64 x10, .int .i64 x11, .int .i64 x12, .int .i64 x13, .int .i64 x14, .int .i64 x15]) (.agg #[.int .i64 y0, .int .i64 y1, .int .i64 y2, .int .i64 y3, .int .i64 y4, .int .i64 y5, .int .i64 y6, .int .i64 y7, .int .i64 y8, .int .i64 y9, .int .i64 y10, .int .i64 y11, .int .i64 y12, .int .i64 y13, .int .i64 y14, .int .i64 y15])).run Tryz.prog w = .ok (.bool (x0 == y0 && (x1 == y1 && (x2 == y2 && (x3 == y3 && (x4 == y4 && (x5 == y5 && (x6 == y6 && (x7 == y7 && (x8 == y8 && (x9 == y9 && (x10 == y10 && (x11 == y11 && (x12 == y12 && (x13 == y13 && (x14 == y14 && (x15 == y15 && true))))))))))))))))) w := by
 simp [go_sem]
 simp only [ifB]
 simp
theorem eqP_dec (p q : Pai) : (p.a.tgt == q.a.tgt && (p.a.band == q.a.band && (p.a.dly == q.a.dly && (p.a.stp == q.a.stp && (p.a.lo == q.a.lo && (p.a.hi == q.a.hi && (p.b.tgt == q.b.tgt && (p.b.band == q.b.band && (p.b.dly == q.b.dly && (p.b.stp == q.b.stp && (p.b.lo == q.b.lo && (p.b.hi == q.b.hi && (p.ma.tap == q.ma.tap && (p.ma.wait == q.ma.wait && (p.mb.tap == q.mb.tap && (p.mb.wait == q.mb.wait && true)))))))))))))))) = decide (p = q) := by
 obtain ⟨⟨a1, a2, a3, a4, a5, a6⟩, ⟨b1, b2, b3, b4, b5, b6⟩, ⟨c1, c2⟩, ⟨d1, d2⟩⟩ := p
 obtain ⟨⟨e1, e2, e3, e4, e5, e6⟩, ⟨f1, f2, f3, f4, f5, f6⟩, ⟨g1, g2⟩, ⟨h1, h2⟩⟩ := q
 rw [Bool.eq_iff_iff]
 simp [and_assoc]
def pai16 (p : Pai) : List Value := [.int .i64 p.a.tgt, .int .i64 p.a.band, .int .i64 p.a.dly, .int .i64 p.a.stp, .int .i64 p.a.lo, .int .i64 p.a.hi, .int .i64 p.b.tgt, .int .i64 p.b.band, .int .i64 p.b.dly, .int .i64 p.b.stp, .int .i64 p.b.lo, .int .i64 p.b.hi, .int .i64 p.ma.tap, .int .i64 p.ma.wait, .int .i64 p.mb.tap, .int .i64 p.mb.wait]
def pcl (l : List Pai) : List Value := l.flatMap pai16
theorem pcl_get : ∀ (l : List Pai) (k : Nat) (p : Pai), l[k]? = some p → ∀ j, j < 16 → (pcl l)[k * 16 + j]? = (pai16 p)[j]?
 | [], k, p, h, j, hj => by simp at h
 | q :: r, 0, p, h, j, hj => by
  obtain rfl : q = p := by simpa using h
  show (pai16 q ++ pcl r)[0 * 16 + j]? = _
  rw [Nat.zero_mul, Nat.zero_add, List.getElem?_append_left (by show j < 16; exact hj)]
 | q :: r, k + 1, p, h, j, hj => by
  have ih := pcl_get r k p (by simpa using h) j hj
  show (pai16 q ++ pcl r)[(k + 1) * 16 + j]? = _
  rw [List.getElem?_append_right (by show 16 ≤ _; omega), ← ih]
  congr 1
  show (k + 1) * 16 + j - 16 = _
  omega
theorem pcl_snoc (l : List Pai) (p : Pai) : pcl (l ++ [p]) = pcl l ++ pai16 p := by simp [pcl]
theorem pcl_one : ∀ (p : Pai), ∀ u ∈ pai16 p, u.oneCell' = true := by
 intro p u hu
 simp only [pai16, List.mem_cons, List.not_mem_nil, or_false] at hu
 rcases hu with rfl | rfl | rfl | rfl | rfl | rfl | rfl | rfl | rfl | rfl | rfl | rfl | rfl | rfl | rfl | rfl <;> rfl
theorem infoPai : (Tryz.prog.info? 29).map (fun i => (i.zero, i.size, i.bytes)) = some (some (.agg #[.int .i64 0, .int .i64 0, .int .i64 0, .int .i64 0, .int .i64 0, .int .i64 0, .int .i64 0, .int .i64 0, .int .i64 0, .int .i64 0, .int .i64 0, .int .i64 0, .int .i64 0, .int .i64 0, .int .i64 0, .int .i64 0]), 16, 128) := by kernel_rfl
def stL (f : Pai → Pai) (p : Pai) (n : Nat) : List Pai := (List.range n).map (itr f p)
theorem stL_succ (f : Pai → Pai) (p : Pai) (n : Nat) : stL f p (n + 1) = stL f p n ++ [itr f p n] := by simp [stL, List.range_succ]
theorem stL_get (f : Pai → Pai) (p : Pai) {n k : Nat} (h : k < n) : (stL f p n)[k]? = some (itr f p k) := by simp [stL, h]
theorem rPairErr_any (p : Pai) (w : World) :
    Calls Tryz.prog 9 #[.agg #[.int .i64 (p).a.tgt, .int .i64 (p).a.band, .int .i64 (p).a.dly, .int .i64 (p).a.stp, .int .i64 (p).a.lo, .int .i64 (p).a.hi, .int .i64 (p).b.tgt, .int .i64 (p).b.band, .int .i64 (p).b.dly, .int .i64 (p).b.stp, .int .i64 (p).b.lo, .int .i64 (p).b.hi, .int .i64 (p).ma.tap, .int .i64 (p).ma.wait, .int .i64 (p).mb.tap, .int .i64 (p).mb.wait]] w fun e' w' => e' = .returned (.int .i64 (paiE p)) ∧ Below w.heap.size w w' := by
 have HRA := Lib.hid (fun W => rRegulatorErr_any p.a W)
 have HRB := Lib.hid (fun W => rRegulatorErr_any p.b W)
 have HMA := Lib.hid (fun (h : regE p.a = 0) W => rMomentErr_any p.a p.ma W (regE_zero.1 h))
 have HMB := Lib.hid (fun (h : regE p.b = 0) W => rMomentErr_any p.b p.mb W (regE_zero.1 h))
 have HE := Lib.hid (show paiE p = firstErr [regE p.a, regE p.b, momE p.a p.ma, momE p.b p.mb] from rfl)
 generalize paiE p = E at *
 generalize regE p.a = E1 at *
 generalize regE p.b = E2 at *
 generalize momE p.a p.ma = E3 at *
 generalize momE p.b p.mb = E4 at *
 obtain ⟨⟨tgt, band, dly, stp, lo, hi⟩, ⟨tgt2, band2, dly2, stp2, lo2, hi2⟩, ⟨tap, wait⟩, ⟨tap2, wait2⟩⟩ := p
 simp only at HRA HRB HMA HMB ⊢
 have hE : E = if E1 ≠ 0 then E1 else if E2 ≠ 0 then E2 else if E3 ≠ 0 then E3 else E4 := by
  rw [HE.out]
  unfold firstErr firstErr firstErr firstErr firstErr
  by_cases h1 : E1 = 0 <;> by_cases h2 : E2 = 0 <;> by_cases h3 : E3 = 0 <;> by_cases h4 : E4 = 0 <;> simp [h1, h2, h3, h4]
 have HE := Lib.hid hE
 clear hE
 go_enter Tryz.func9, Tryz.ntmps9
 go_wp2_with fail
 obtain ⟨w1, hW⟩ : ∃ w1, w1 = w.alloc (Obj.cells #[.int .i64 tgt, .int .i64 band, .int .i64 dly, .int .i64 stp, .int .i64 lo, .int .i64 hi, .int .i64 tgt2, .int .i64 band2, .int .i64 dly2, .int .i64 stp2, .int .i64 lo2, .int .i64 hi2, .int .i64 tap, .int .i64 wait, .int .i64 tap2, .int .i64 wait2] 29) := ⟨_, rfl⟩
 obtain ⟨hb1, k1⟩ := alA1 w (Obj.cells #[.int .i64 tgt, .int .i64 band, .int .i64 dly, .int .i64 stp, .int .i64 lo, .int .i64 hi, .int .i64 tgt2, .int .i64 band2, .int .i64 dly2, .int .i64 stp2, .int .i64 lo2, .int .i64 hi2, .int .i64 tap, .int .i64 wait, .int .i64 tap2, .int .i64 wait2] 29)
 rw [← hW] at hb1 k1
 rw [← hW]
 obtain ⟨X1, hX1⟩ : ∃ X, X = w.heap.size := ⟨_, rfl⟩
 rw [← hX1] at k1
 simp only [← hX1]
 clear hW hX1
 refine (HRA.out _).mono ?_
 rintro e2 w2 ⟨rfl, hb2⟩
 have K := Lib.hid (k1.below hb2)
 have HB := Lib.hid (hb1.trans (hb2.mono hb1.size))
 have c_0 := blk_cell K.out (i := 0) rfl
 have c_1 := blk_cell K.out (i := 1) rfl
 have c_2 := blk_cell K.out (i := 2) rfl
 have c_3 := blk_cell K.out (i := 3) rfl
 have c_4 := blk_cell K.out (i := 4) rfl
 have c_5 := blk_cell K.out (i := 5) rfl
 have c_6 := blk_cell K.out (i := 6) rfl
 have c_7 := blk_cell K.out (i := 7) rfl
 have c_8 := blk_cell K.out (i := 8) rfl
 have c_9 := blk_cell K.out (i := 9) rfl
 have c_10 := blk_cell K.out (i := 10) rfl
 have c_11 := blk_cell K.out (i := 11) rfl
 have c_12 := blk_cell K.out (i := 12) rfl
 have c_13 := blk_cell K.out (i := 13) rfl
 have c_14 := blk_cell K.out (i := 14) rfl
 have c_15 := blk_cell K.out (i := 15) rfl
 have l1 := K.out.lt
 clear k1 hb1 hb2 HRA
 by_cases h1 : E1 = 0
 rotate_left
 ·have e1 := bne_iff_ne.2 h1
  have hq := HE.out
  rw [if_pos h1] at hq
  subst hq
  clear HE
  go_wp2
  go_ret
  exact ⟨rfl, HB.out⟩
 subst h1
 have HE := Lib.hid (HE.out.trans (if_neg (by exact fun h => h rfl)))
 go_wp2_with fail
 refine (HRB.out _).mono ?_
 rintro e3 w3 ⟨rfl, hb3⟩
 have K := Lib.hid (K.out.below hb3)
 have HB := bwt HB hb3
 clear c_0 c_1 c_2 c_3 c_4 c_5 c_6 c_7 c_8 c_9 c_10 c_11 c_12 c_13 c_14 c_15 l1 hb3 HRB
 have c_0 := blk_cell K.out (i := 0) rfl
 have c_1 := blk_cell K.out (i := 1) rfl
 have c_2 := blk_cell K.out (i := 2) rfl
 have c_3 := blk_cell K.out (i := 3) rfl
 have c_4 := blk_cell K.out (i := 4) rfl
 have c_5 := blk_cell K.out (i := 5) rfl
 have c_6 := blk_cell K.out (i := 6) rfl
 have c_7 := blk_cell K.out (i := 7) rfl
 have c_8 := blk_cell K.out (i := 8) rfl
 have c_9 := blk_cell K.out (i := 9) rfl
 have c_10 := blk_cell K.out (i := 10) rfl
 have c_11 := blk_cell K.out (i := 11) rfl
 have c_12 := blk_cell K.out (i := 12) rfl
 have c_13 := blk_cell K.out (i := 13) rfl
 have c_14 := blk_cell K.out (i := 14) rfl
 have c_15 := blk_cell K.out (i := 15) rfl
 have l1 := K.out.lt
 by_cases h1 : E2 = 0
 rotate_left
 ·have e1 := bne_iff_ne.2 h1
  have hq := HE.out
  rw [if_pos h1] at hq
  subst hq
  clear HE
  go_wp2
  go_ret
  exact ⟨rfl, HB.out⟩
 subst h1
 have HE := Lib.hid (HE.out.trans (if_neg (by exact fun h => h rfl)))
 go_wp2_with fail
 refine (HMA.out (by trivial) _).mono ?_
 rintro e3 w4 ⟨rfl, hb3⟩
 have K := Lib.hid (K.out.below hb3)
 have HB := bwt HB hb3
 clear c_0 c_1 c_2 c_3 c_4 c_5 c_6 c_7 c_8 c_9 c_10 c_11 c_12 c_13 c_14 c_15 l1 hb3 HMA
 have c_0 := blk_cell K.out (i := 0) rfl
 have c_1 := blk_cell K.out (i := 1) rfl
 have c_2 := blk_cell K.out (i := 2) rfl
 have c_3 := blk_cell K.out (i := 3) rfl
 have c_4 := blk_cell K.out (i := 4) rfl
 have c_5 := blk_cell K.out (i := 5) rfl
 have c_6 := blk_cell K.out (i := 6) rfl
 have c_7 := blk_cell K.out (i := 7) rfl
 have c_8 := blk_cell K.out (i := 8) rfl
 have c_9 := blk_cell K.out (i := 9) rfl
 have c_10 := blk_cell K.out (i := 10) rfl
 have c_11 := blk_cell K.out (i := 11) rfl
 have c_12 := blk_cell K.out (i := 12) rfl
 have c_13 := blk_cell K.out (i := 13) rfl
 have c_14 := blk_cell K.out (i := 14) rfl
 have c_15 := blk_cell K.out (i := 15) rfl
 have l1 := K.out.lt
 by_cases h1 : E3 = 0
 rotate_left
 ·have e1 := bne_iff_ne.2 h1
  have hq := HE.out
  rw [if_pos h1] at hq
  subst hq
  clear HE
  go_wp2
  go_ret
  exact ⟨rfl, HB.out⟩
 subst h1
 have HE := Lib.hid (HE.out.trans (if_neg (by exact fun h => h rfl)))
 go_wp2_with fail
 refine (HMB.out (by trivial) _).mono ?_
 rintro e3 w5 ⟨rfl, hb3⟩
 have HB := bwt HB hb3
 clear c_0 c_1 c_2 c_3 c_4 c_5 c_6 c_7 c_8 c_9 c_10 c_11 c_12 c_13 c_14 c_15 l1 hb3 HMB
 go_wp2
 go_ret
 exact ⟨by rw [HE.out]; rfl, HB.out⟩
set_option maxHeartbeats 2000000 in
set_option maxRecDepth 100000 in
theorem rPairRegulated_any (p : Pai) (d : Int) (w : World) (hp : PaiV p) (hd : -10000 ≤ d ∧ d ≤ 10000) :
    Calls Tryz.prog 11 #[.agg #[.int .i64 (p).a.tgt, .int .i64 (p).a.band, .int .i64 (p).a.dly, .int .i64 (p).a.stp, .int .i64 (p).a.lo, .int .i64 (p).a.hi, .int .i64 (p).b.tgt, .int .i64 (p).b.band, .int .i64 (p).b.dly, .int .i64 (p).b.stp, .int .i64 (p).b.lo, .int .i64 (p).b.hi, .int .i64 (p).ma.tap, .int .i64 (p).ma.wait, .int .i64 (p).mb.tap, .int .i64 (p).mb.wait], .int .i64 d] w fun e' w' => e' = .returned (.agg #[.int .i64 (tickP d p).a.tgt, .int .i64 (tickP d p).a.band, .int .i64 (tickP d p).a.dly, .int .i64 (tickP d p).a.stp, .int .i64 (tickP d p).a.lo, .int .i64 (tickP d p).a.hi, .int .i64 (tickP d p).b.tgt, .int .i64 (tickP d p).b.band, .int .i64 (tickP d p).b.dly, .int .i64 (tickP d p).b.stp, .int .i64 (tickP d p).b.lo, .int .i64 (tickP d p).b.hi, .int .i64 (tickP d p).ma.tap, .int .i64 (tickP d p).ma.wait, .int .i64 (tickP d p).mb.tap, .int .i64 (tickP d p).mb.wait]) ∧ Below w.heap.size w w' := by
 have key : ∀ (r : Reg) (m : Mom), RegV r → MomV r m → -400000 ≤ r.stp * m.tap ∧ r.stp * m.tap ≤ 400000 := by
  intro r m hr hm
  have h1 := hm.1
  have h2 := hr.l0
  have h3 := hr.h1
  have h4 : (r.stp * m.tap).natAbs ≤ 10000 * 40 := by rw [Int.natAbs_mul]; exact Nat.mul_le_mul (by have := hr.s0; have := hr.s1; omega) (by omega)
  omega
 have k1 := key p.a p.ma hp.1 hp.2.2.1
 have k2 := key p.b p.mb hp.2.1 hp.2.2.2
 have HA := Lib.hid (fun (W : World) => rActed_any p.a p.ma (volP p d) W hp.1 hp.2.2.1)
 have HB := Lib.hid (fun (W : World) => rActed_any p.b p.mb (volP p d) W hp.2.1 hp.2.2.2)
 have hT : tickP d p = ⟨p.a, p.b, act p.a p.ma (volP p d), act p.b p.mb (volP p d)⟩ := rfl
 rw [hT]
 generalize act p.a p.ma (volP p d) = R1 at *
 generalize act p.b p.mb (volP p d) = R2 at *
 have hV : volP p d = d + (p.a.stp * p.ma.tap + p.b.stp * p.mb.tap) / 2 := rfl
 generalize volP p d = V at *
 obtain ⟨⟨tgt, band, dly, stp, lo, hi⟩, ⟨tgt2, band2, dly2, stp2, lo2, hi2⟩, ⟨tap, wait⟩, ⟨tap2, wait2⟩⟩ := p
 obtain ⟨ra, rb⟩ := R1
 obtain ⟨rc, rd⟩ := R2
 simp only at HA HB hV k1 k2 ⊢
 generalize hP1 : stp * tap = P1 at *
 generalize hP2 : stp2 * tap2 = P2 at *
 have w1 : IntKind.i64.wrap P1 = P1 := by rw [IntKind.wrap_i64]; omega
 have w2 : IntKind.i64.wrap P2 = P2 := by rw [IntKind.wrap_i64]; omega
 have w3 : IntKind.i64.wrap (P1 + P2) = P1 + P2 := by rw [IntKind.wrap_i64]; omega
 have w5 : IntKind.i64.wrap (d + (P1 + P2) / 2) = d + (P1 + P2) / 2 := by rw [IntKind.wrap_i64]; omega
 subst hV
 have HFL := Lib.hid (fun (W : World) => floor_pos (P1 + P2) 2 W (by omega) (by omega) (by omega) (by omega))
 clear hp hT key
 go_enter Tryz.func11, Tryz.ntmps11
 go_wp2_with fail
 obtain ⟨w2, hW2⟩ : ∃ w2, w2 = (w.alloc (Obj.cells #[.int .i64 tgt, .int .i64 band, .int .i64 dly, .int .i64 stp, .int .i64 lo, .int .i64 hi, .int .i64 tgt2, .int .i64 band2, .int .i64 dly2, .int .i64 stp2, .int .i64 lo2, .int .i64 hi2, .int .i64 tap, .int .i64 wait, .int .i64 tap2, .int .i64 wait2] 29)).alloc (Obj.cells #[.int .i64 0, .int .i64 0, .int .i64 0, .int .i64 0, .int .i64 0, .int .i64 0, .int .i64 0, .int .i64 0, .int .i64 0, .int .i64 0, .int .i64 0, .int .i64 0, .int .i64 0, .int .i64 0, .int .i64 0, .int .i64 0] 29) := ⟨_, rfl⟩
 obtain ⟨hb2, k2, k4⟩ := alA2 w (Obj.cells #[.int .i64 tgt, .int .i64 band, .int .i64 dly, .int .i64 stp, .int .i64 lo, .int .i64 hi, .int .i64 tgt2, .int .i64 band2, .int .i64 dly2, .int .i64 stp2, .int .i64 lo2, .int .i64 hi2, .int .i64 tap, .int .i64 wait, .int .i64 tap2, .int .i64 wait2] 29) (Obj.cells #[.int .i64 0, .int .i64 0, .int .i64 0, .int .i64 0, .int .i64 0, .int .i64 0, .int .i64 0, .int .i64 0, .int .i64 0, .int .i64 0, .int .i64 0, .int .i64 0, .int .i64 0, .int .i64 0, .int .i64 0, .int .i64 0] 29)
 rw [← hW2] at hb2 k2 k4
 rw [← hW2]
 obtain ⟨X2, hX2⟩ : ∃ X, X = w.heap.size := ⟨_, rfl⟩
 obtain ⟨X4, hX4⟩ : ∃ X, X = w.heap.size + 1 := ⟨_, rfl⟩
 rw [← hX4] at k4
 rw [← hX2] at k2
 simp only [← hX4]
 simp only [← hX2]
 have hw2 : w.heap.size ≤ X2 := by omega
 have hw4 : w.heap.size ≤ X4 := by omega
 have n24 : X2 ≠ X4 := by omega
 have K2 := Lib.hid k2
 have K4 := Lib.hid k4
 have HBW := Lib.hid hb2
 clear hW2 hX2 hX4 k1 k2 k4 hb2
 refine (HFL.out _).mono ?_
 rintro e3 w3 ⟨rfl, rfl⟩
 have c_0 := blk_cell K2.out (i := 0) rfl
 have c_1 := blk_cell K2.out (i := 1) rfl
 have c_2 := blk_cell K2.out (i := 2) rfl
 have c_3 := blk_cell K2.out (i := 3) rfl
 have c_4 := blk_cell K2.out (i := 4) rfl
 have c_5 := blk_cell K2.out (i := 5) rfl
 have c_6 := blk_cell K2.out (i := 6) rfl
 have c_7 := blk_cell K2.out (i := 7) rfl
 have c_8 := blk_cell K2.out (i := 8) rfl
 have c_9 := blk_cell K2.out (i := 9) rfl
 have c_10 := blk_cell K2.out (i := 10) rfl
 have c_11 := blk_cell K2.out (i := 11) rfl
 have c_12 := blk_cell K2.out (i := 12) rfl
 have c_13 := blk_cell K2.out (i := 13) rfl
 have c_14 := blk_cell K2.out (i := 14) rfl
 have c_15 := blk_cell K2.out (i := 15) rfl
 have l2 := K2.out.lt
 go_wp2_with fail
 refine later_of_eq 13 (by kernel_rfl) (by kernel_rfl) ?_; simp only [List.take_succ_cons, List.take_zero, List.drop_succ_cons, List.drop_zero]; repeat go_big_quiet_step(first | with_reducible exact calls_later (HA.out _) | with_reducible exact calls_later (HB.out _))
 refine wpQuiet_nil ?_; intro w5 hb5
 have K2 := Lib.hid (K2.out.below hb5)
 have K4 := Lib.hid (K4.out.below hb5)
 have HBW := bwt HBW hb5
 clear c_0 c_1 c_2 c_3 c_4 c_5 c_6 c_7 c_8 c_9 c_10 c_11 c_12 c_13 c_14 c_15 l2 hb5 HA HB HFL
 have c_0 := blk_cell K2.out (i := 0) rfl
 have c_1 := blk_cell K2.out (i := 1) rfl
 have c_2 := blk_cell K2.out (i := 2) rfl
 have c_3 := blk_cell K2.out (i := 3) rfl
 have c_4 := blk_cell K2.out (i := 4) rfl
 have c_5 := blk_cell K2.out (i := 5) rfl
 have c_6 := blk_cell K2.out (i := 6) rfl
 have c_7 := blk_cell K2.out (i := 7) rfl
 have c_8 := blk_cell K2.out (i := 8) rfl
 have c_9 := blk_cell K2.out (i := 9) rfl
 have c_10 := blk_cell K2.out (i := 10) rfl
 have c_11 := blk_cell K2.out (i := 11) rfl
 have c_12 := blk_cell K2.out (i := 12) rfl
 have c_13 := blk_cell K2.out (i := 13) rfl
 have c_14 := blk_cell K2.out (i := 14) rfl
 have c_15 := blk_cell K2.out (i := 15) rfl
 have f_0 := blk_fz K2.out 0
 have f_1 := blk_fz K2.out 1
 have f_2 := blk_fz K2.out 2
 have f_3 := blk_fz K2.out 3
 have f_4 := blk_fz K2.out 4
 have f_5 := blk_fz K2.out 5
 have f_6 := blk_fz K2.out 6
 have f_7 := blk_fz K2.out 7
 have f_8 := blk_fz K2.out 8
 have f_9 := blk_fz K2.out 9
 have f_10 := blk_fz K2.out 10
 have f_11 := blk_fz K2.out 11
 have f_12 := blk_fz K2.out 12
 have f_13 := blk_fz K2.out 13
 have f_14 := blk_fz K2.out 14
 have f_15 := blk_fz K2.out 15
 have l2 := K2.out.lt
 have d_0 := blk_cell K4.out (i := 0) rfl
 have d_1 := blk_cell K4.out (i := 1) rfl
 have d_2 := blk_cell K4.out (i := 2) rfl
 have d_3 := blk_cell K4.out (i := 3) rfl
 have d_4 := blk_cell K4.out (i := 4) rfl
 have d_5 := blk_cell K4.out (i := 5) rfl
 have d_6 := blk_cell K4.out (i := 6) rfl
 have d_7 := blk_cell K4.out (i := 7) rfl
 have d_8 := blk_cell K4.out (i := 8) rfl
 have d_9 := blk_cell K4.out (i := 9) rfl
 have d_10 := blk_cell K4.out (i := 10) rfl
 have d_11 := blk_cell K4.out (i := 11) rfl
 have d_12 := blk_cell K4.out (i := 12) rfl
 have d_13 := blk_cell K4.out (i := 13) rfl
 have d_14 := blk_cell K4.out (i := 14) rfl
 have d_15 := blk_cell K4.out (i := 15) rfl
 have g_0 := blk_fz K4.out 0
 have g_1 := blk_fz K4.out 1
 have g_2 := blk_fz K4.out 2
 have g_3 := blk_fz K4.out 3
 have g_4 := blk_fz K4.out 4
 have g_5 := blk_fz K4.out 5
 have g_6 := blk_fz K4.out 6
 have g_7 := blk_fz K4.out 7
 have g_8 := blk_fz K4.out 8
 have g_9 := blk_fz K4.out 9
 have g_10 := blk_fz K4.out 10
 have g_11 := blk_fz K4.out 11
 have g_12 := blk_fz K4.out 12
 have g_13 := blk_fz K4.out 13
 have g_14 := blk_fz K4.out 14
 have g_15 := blk_fz K4.out 15
 have l4 := K4.out.lt
 go_wp2
 obtain ⟨w6, hW6⟩ : ∃ w6, w6 = (((w5.setCell ⟨X2, 12, none⟩ (.int .i64 ra)).setCell ⟨X2, 13, none⟩ (.int .i64 rb)).setCell ⟨X2, 14, none⟩ (.int .i64 rc)).setCell ⟨X2, 15, none⟩ (.int .i64 rd) := ⟨_, rfl⟩
 rw [← hW6]
 have k4 : BlkR w6 X4 (.cells #[.int .i64 0, .int .i64 0, .int .i64 0, .int .i64 0, .int .i64 0, .int .i64 0, .int .i64 0, .int .i64 0, .int .i64 0, .int .i64 0, .int .i64 0, .int .i64 0, .int .i64 0, .int .i64 0, .int .i64 0, .int .i64 0] 29) := by rw [hW6]; exact (heap_set_neI n24.symm).trans ((heap_set_neI n24.symm).trans ((heap_set_neI n24.symm).trans ((heap_set_neI n24.symm).trans K4.out)))
 have hbw : Below w.heap.size w w6 := by rw [hW6]; exact (((HBW.out.setCell hw2 _).setCell hw2 _).setCell hw2 _).setCell hw2 _
 have k4 := blk_put16 k4 (.int .i64 tgt) (.int .i64 band) (.int .i64 dly) (.int .i64 stp) (.int .i64 lo) (.int .i64 hi) (.int .i64 tgt2) (.int .i64 band2) (.int .i64 dly2) (.int .i64 stp2) (.int .i64 lo2) (.int .i64 hi2) (.int .i64 ra) (.int .i64 rb) (.int .i64 rc) (.int .i64 rd)
 have hbw := below_put16 hbw hw4 (.int .i64 tgt) (.int .i64 band) (.int .i64 dly) (.int .i64 stp) (.int .i64 lo) (.int .i64 hi) (.int .i64 tgt2) (.int .i64 band2) (.int .i64 dly2) (.int .i64 stp2) (.int .i64 lo2) (.int .i64 hi2) (.int .i64 ra) (.int .i64 rb) (.int .i64 rc) (.int .i64 rd)
 clear hW6 c_0 c_1 c_2 c_3 c_4 c_5 c_6 c_7 c_8 c_9 c_10 c_11 c_12 c_13 c_14 c_15 f_0 f_1 f_2 f_3 f_4 f_5 f_6 f_7 f_8 f_9 f_10 f_11 f_12 f_13 f_14 f_15 d_0 d_1 d_2 d_3 d_4 d_5 d_6 d_7 d_8 d_9 d_10 d_11 d_12 d_13 d_14 d_15 g_0 g_1 g_2 g_3 g_4 g_5 g_6 g_7 g_8 g_9 g_10 g_11 g_12 g_13 g_14 g_15 l2 l4
 generalize (World.setCell (World.setCell (World.setCell (World.setCell (World.setCell (World.setCell (World.setCell (World.setCell (World.setCell (World.setCell (World.setCell (World.setCell (World.setCell (World.setCell (World.setCell (World.setCell (w6) ⟨X4, 0, none⟩ (.int .i64 tgt)) ⟨X4, 1, none⟩ (.int .i64 band)) ⟨X4, 2, none⟩ (.int .i64 dly)) ⟨X4, 3, none⟩ (.int .i64 stp)) ⟨X4, 4, none⟩ (.int .i64 lo)) ⟨X4, 5, none⟩ (.int .i64 hi)) ⟨X4, 6, none⟩ (.int .i64 tgt2)) ⟨X4, 7, none⟩ (.int .i64 band2)) ⟨X4, 8, none⟩ (.int .i64 dly2)) ⟨X4, 9, none⟩ (.int .i64 stp2)) ⟨X4, 10, none⟩ (.int .i64 lo2)) ⟨X4, 11, none⟩ (.int .i64 hi2)) ⟨X4, 12, none⟩ (.int .i64 ra)) ⟨X4, 13, none⟩ (.int .i64 rb)) ⟨X4, 14, none⟩ (.int .i64 rc)) ⟨X4, 15, none⟩ (.int .i64 rd)) = wz at *
 have c_0 := blk_cell k4 (i := 0) rfl
 have c_1 := blk_cell k4 (i := 1) rfl
 have c_2 := blk_cell k4 (i := 2) rfl
 have c_3 := blk_cell k4 (i := 3) rfl
 have c_4 := blk_cell k4 (i := 4) rfl
 have c_5 := blk_cell k4 (i := 5) rfl
 have c_6 := blk_cell k4 (i := 6) rfl
 have c_7 := blk_cell k4 (i := 7) rfl
 have c_8 := blk_cell k4 (i := 8) rfl
 have c_9 := blk_cell k4 (i := 9) rfl
 have c_10 := blk_cell k4 (i := 10) rfl
 have c_11 := blk_cell k4 (i := 11) rfl
 have c_12 := blk_cell k4 (i := 12) rfl
 have c_13 := blk_cell k4 (i := 13) rfl
 have c_14 := blk_cell k4 (i := 14) rfl
 have c_15 := blk_cell k4 (i := 15) rfl
 refine bodyPost_ret (v := .agg #[.int .i64 tgt, .int .i64 band, .int .i64 dly, .int .i64 stp, .int .i64 lo, .int .i64 hi, .int .i64 tgt2, .int .i64 band2, .int .i64 dly2, .int .i64 stp2, .int .i64 lo2, .int .i64 hi2, .int .i64 ra, .int .i64 rb, .int .i64 rc, .int .i64 rd]) (by simp [results, Tryz.results11, go_sem, c_0, c_1, c_2, c_3, c_4, c_5, c_6, c_7, c_8, c_9, c_10, c_11, c_12, c_13, c_14, c_15]) rfl ⟨rfl, hbw⟩
def PrR (p : Pai) (d n : Int) (b : Bool) : Prop := ∃ T fr, Rep (tickP d) p T fr ∧ n = ((lastM (tickP d) (mvP d) p T : Nat) : Int) ∧ b = decide (lastM (tickP d) (mvP d) p T ≤ fr)
structure PaiF (p : Pai) : Prop where
 a1 : p.a.dly ≤ 4
 a2 : p.a.hi - p.a.lo ≤ 8
 b1 : p.b.dly ≤ 4
 b2 : p.b.hi - p.b.lo ≤ 8
theorem few_bound {d : Int} {p : Pai} (hp : PaiV p) (hf : PaiF p) {T : Nat} (h : ∀ i j, i < j → j < T → itr (tickP d) p i ≠ itr (tickP d) p j) : T ≤ 3969 := by
 refine rep_bound (f := tickP d) (p := fun q => (q.a = p.a ∧ q.b = p.b) ∧ PaiV q) (fun q => (((q.ma.tap - p.a.lo) * 7 + (q.ma.wait + 3)) * 63 + ((q.mb.tap - p.b.lo) * 7 + (q.mb.wait + 3))).toNat) (fun q hq => ⟨hq.1, tickP_valid d q hq.2⟩) ⟨⟨rfl, rfl⟩, hp⟩ (fun q hq => ?_) (fun x y hx hy he => ?_) h
 ·obtain ⟨⟨e1, e2⟩, h1, h2, ⟨⟨h3, h4⟩, h5, h6⟩, ⟨h7, h8⟩, h9, h10⟩ := hq
  rw [e1] at h3 h4 h5 h6
  rw [e2] at h7 h8 h9 h10
  have := hf.a1; have := hf.a2; have := hf.b1; have := hf.b2
  omega
 ·obtain ⟨⟨e1, e2⟩, h1, h2, ⟨⟨h3, h4⟩, h5, h6⟩, ⟨h7, h8⟩, h9, h10⟩ := hx
  obtain ⟨⟨e1', e2'⟩, h1', h2', ⟨⟨h3', h4'⟩, h5', h6'⟩, ⟨h7', h8'⟩, h9', h10'⟩ := hy
  rw [e1] at h3 h4 h5 h6
  rw [e2] at h7 h8 h9 h10
  rw [e1'] at h3' h4' h5' h6'
  rw [e2'] at h7' h8' h9' h10'
  have := hf.a1; have := hf.a2; have := hf.b1; have := hf.b2
  obtain ⟨xa, xb, ⟨x1, x2⟩, ⟨x3, x4⟩⟩ := x
  obtain ⟨ya, yb, ⟨y1, y2⟩, ⟨y3, y4⟩⟩ := y
  simp only at *
  have g1 : x1 = y1 := by omega
  have g2 : x2 = y2 := by omega
  have g3 : x3 = y3 := by omega
  have g4 : x4 = y4 := by omega
  rw [e1, e2, e1', e2', g1, g2, g3, g4]
end Go.Proofs.YtdjinmieogpgcaaGreat
