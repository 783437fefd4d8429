import Derived.Test.YtppkckbnjnenfaaGreatMTRst
/- The worst of settlings: slices.MinFunc at settlings, with the program's comparison. -/
namespace Go.Proofs.YtppkckbnjnenfaaGreat
open Go.RowKit Go.Shelf
set_option linter.unusedVariables false
set_option linter.unusedSimpArgs false
def worse (x m : Int × Int) : Bool := decide (m.1 < x.1) || (decide (m.1 = x.1) && decide (x.2 < m.2))
def worst (m : Int × Int) : List (Int × Int) → Int × Int
 | [] => m
 | x :: r => worst (if worse x m = true then x else m) r
theorem worst_snoc (x : Int × Int) : ∀ (r : List (Int × Int)) (m : Int × Int), worst m (r ++ [x]) = if worse x (worst m r) = true then x else worst m r
 | [], m => rfl
 | y :: r, m => worst_snoc x r _
def cpI (a b : Int) : Int := if a < b then -1 else if b < a then 1 else 0
set_option maxRecDepth 100000 in
theorem isNaN_any (a : Int) (w : World) : Calls Tryz.prog 121 #[.int .i64 a] w fun e' w' => e' = .returned (.bool false) ∧ w = w' := by
 have e1 : (a != a) = false := by simp
 go_enter Tryz.func121, Tryz.ntmps121
 go_wp2
 go_ret
 exact ⟨rfl, rfl⟩
set_option maxRecDepth 100000 in
theorem compare_any (a b : Int) (w : World) : Calls Tryz.prog 77 #[.int .i64 a, .int .i64 b] w fun e' w' => e' = .returned (.int .i64 (cpI a b)) ∧ w = w' := by
 have H1 := Lib.hid (fun x W => isNaN_any x W)
 have HC := Lib.hid (show cpI a b = if a < b then -1 else if b < a then 1 else 0 from rfl)
 generalize cpI a b = C at *
 by_cases h1 : a < b
 ·obtain rfl : C = -1 := HC.out.trans (if_pos h1)
  clear HC
  go_enter Tryz.func77, Tryz.ntmps77
  go_wp2_with (go_at_call 121; refine (H1.out _ _).mono ?_; rintro e5 w5 ⟨rfl, rfl⟩)
  go_ret
  exact ⟨rfl, rfl⟩
 ·by_cases h2 : b < a
  ·obtain rfl : C = 1 := HC.out.trans ((if_neg h1).trans (if_pos h2))
   clear HC
   go_enter Tryz.func77, Tryz.ntmps77
   go_wp2_with (go_at_call 121; refine (H1.out _ _).mono ?_; rintro e5 w5 ⟨rfl, rfl⟩)
   go_ret
   exact ⟨rfl, rfl⟩
  ·obtain rfl : C = 0 := HC.out.trans ((if_neg h1).trans (if_neg h2))
   clear HC
   go_enter Tryz.func77, Tryz.ntmps77
   go_wp2_with (go_at_call 121; refine (H1.out _ _).mono ?_; rintro e5 w5 ⟨rfl, rfl⟩)
   go_ret
   exact ⟨rfl, rfl⟩
set_option maxRecDepth 100000 in
theorem or2_any (x y : Int) (b c : Nat) (w : World) (hb : b < w.heap.size) (h0 : w.cell? ⟨b, 0, none⟩ = some (.int .i64 x)) (h1 : w.cell? ⟨b, 1, none⟩ = some (.int .i64 y)) :
    Calls Tryz.prog 76 #[.slice (some ⟨b, 0, none⟩) 2 c] w fun e' w' => e' = .returned (.int .i64 (if x ≠ 0 then x else y)) ∧ w = w' := by
 obtain ⟨R, hR⟩ : ∃ R, R = if x ≠ 0 then x else y := ⟨_, rfl⟩
 rw [← hR]
 have HR := Lib.hid hR
 clear hR
 go_enter Tryz.func76, Tryz.ntmps76
 go_wp2_with fail
 go_loopw [8] (fun v wr => ∃ k : Nat, v = .int .i64 (k : Int) ∧ k ≤ 2 ∧ Hid (0 < k → x = 0) ∧ Hid (1 < k → y = 0) ∧ w = wr) (fun v _ => 2 - (intOf v).toNat)
 case atStart => exact ⟨0, rfl, by omega, Lib.hid (by omega), Lib.hid (by omega), rfl⟩
 case round =>
  obtain ⟨k, rfl, hk, HX, HY, rfl⟩ := hrel
  obtain rfl | rfl | rfl : k = 0 ∨ k = 1 ∨ k = 2 := by omega
  ·by_cases hx : x = 0
   ·subst hx
    go_wp2
    exact ⟨⟨1, rfl, by omega, Lib.hid (fun _ => by trivial), Lib.hid (by omega), by trivial⟩, by simp [intOf]⟩
   ·have e1 := bne_iff_ne.2 hx
    have HR := Lib.hid (HR.out.trans (if_pos hx))
    clear hx
    go_wp2
    go_ret
    exact ⟨by rw [HR.out]; rfl, by trivial⟩
  ·have HR := Lib.hid (HR.out.trans (if_neg (by exact fun h => h (HX.out (by omega)))))
   by_cases hy : y = 0
   ·subst hy
    go_wp2
    exact ⟨⟨2, rfl, by omega, Lib.hid (fun _ => HX.out (by omega)), Lib.hid (fun _ => by trivial), by trivial⟩, by simp [intOf]⟩
   ·have e1 := bne_iff_ne.2 hy
    clear hy
    go_wp2
    go_ret
    exact ⟨by rw [HR.out]; rfl, by trivial⟩
  ·have HR := Lib.hid (HR.out.trans (if_neg (by exact fun h => h (HX.out (by omega)))))
   have hy := HY.out (by omega)
   go_wp2
   go_ret
   exact ⟨by rw [HR.out, hy]; rfl, by trivial⟩
def cmpS (x m : Int × Int) : Int := if cpI m.1 x.1 ≠ 0 then cpI m.1 x.1 else cpI x.2 m.2
theorem cmpS_neg (x m : Int × Int) : cmpS x m < 0 ↔ worse x m = true := by
 unfold cmpS cpI worse
 simp only [Bool.or_eq_true, Bool.and_eq_true, decide_eq_true_eq]
 split <;> split <;> (try split) <;> omega
set_option maxHeartbeats 1000000 in
set_option maxRecDepth 100000 in
theorem wcmp_any (x m : Int × Int) (w : World) :
    Calls Tryz.prog 75 #[.agg #[.int .i64 x.1, .int .i64 x.2], .agg #[.int .i64 m.1, .int .i64 m.2]] w fun e' w' => e' = .returned (.int .i64 (cmpS x m)) ∧ Below w.heap.size w w' := by
 have HCP := Lib.hid (fun a b W => compare_any a b W)
 have HC := Lib.hid (show cmpS x m = if cpI m.1 x.1 ≠ 0 then cpI m.1 x.1 else cpI x.2 m.2 from rfl)
 generalize cmpS x m = C at *
 obtain ⟨x1, x2⟩ := x
 obtain ⟨m1, m2⟩ := m
 simp only at HC ⊢
 generalize hc1 : cpI m1 x1 = C1 at *
 generalize hc2 : cpI x2 m2 = C2 at *
 have H1 := Lib.hid (fun W => show Calls Tryz.prog 77 #[.int .i64 m1, .int .i64 x1] W (fun e' w' => e' = .returned (.int .i64 C1) ∧ W = w') from by have h := compare_any m1 x1 W; rwa [hc1] at h)
 have H2 := Lib.hid (fun W => show Calls Tryz.prog 77 #[.int .i64 x2, .int .i64 m2] W (fun e' w' => e' = .returned (.int .i64 C2) ∧ W = w') from by have h := compare_any x2 m2 W; rwa [hc2] at h)
 clear hc1 hc2 HCP
 go_enter Tryz.func75, Tryz.ntmps75
 go_wp2_with fail
 obtain ⟨w1, hW⟩ : ∃ w1, w1 = (w.alloc (Obj.cells #[.int .i64 x1, .int .i64 x2] 66)).alloc (Obj.cells #[.int .i64 m1, .int .i64 m2] 66) := ⟨_, rfl⟩
 obtain ⟨hb1, k2, k3⟩ := alA2 w (Obj.cells #[.int .i64 x1, .int .i64 x2] 66) (Obj.cells #[.int .i64 m1, .int .i64 m2] 66)
 rw [← hW] at hb1 k2 k3
 rw [← hW]
 obtain ⟨X2, hX2⟩ : ∃ X, X = w.heap.size := ⟨_, rfl⟩
 obtain ⟨X3, hX3⟩ : ∃ X, X = w.heap.size + 1 := ⟨_, rfl⟩
 rw [← hX3] at k3
 rw [← hX2] at k2
 simp only [← hX3]
 simp only [← hX2]
 have HB := Lib.hid hb1
 obtain ⟨c0, c1, _⟩ := blkc2 k2
 obtain ⟨d0, d1, _⟩ := blkc2 k3
 have l2 := blk_lt k2
 have l3 := blk_lt k3
 clear hW hX2 hX3 k2 k3 hb1
 go_wp2_with fail
 refine later_of_eq 9 (by kernel_rfl) (by kernel_rfl) ?_; simp only [List.take_succ_cons, List.take_zero, List.drop_succ_cons, List.drop_zero]; repeat go_big_quiet_step(exact calls_later_same (H1.out _))
 refine wpQuiet_nil ?_; intro w5 hb5
 have HB := bwt HB hb5
 clear c0 c1 d0 d1 l2 l3 hb5
 go_wp2_with fail
 refine (H2.out _).mono ?_
 rintro e6 w6 ⟨rfl, rfl⟩
 go_wp2_with fail
 obtain ⟨w7, hW⟩ : ∃ w7, w7 = w5.alloc (Obj.cells #[.int .i64 C1, .int .i64 C2] 3) := ⟨_, rfl⟩
 obtain ⟨hb7, k7⟩ := alA1 w5 (Obj.cells #[.int .i64 C1, .int .i64 C2] 3)
 rw [← hW] at hb7 k7
 rw [← hW]
 have HB := bwt HB hb7
 refine (or2_any C1 C2 _ _ w7 (blk_lt k7) (blk_cell k7 (i := 0) rfl) (blk_cell k7 (i := 1) rfl)).mono ?_
 rintro e8 w8 ⟨rfl, rfl⟩
 rw [← HC.out]
 clear hW hb7 k7 H1 H2
 go_wp2
 go_ret
 exact ⟨rfl, HB.out⟩
set_option maxHeartbeats 2000000 in
set_option maxRecDepth 100000 in
theorem minFunc_any (x : Int × Int) (l : List (Int × Int)) (a : Option Addr) (n c : Nat) (w : World) (h : PairsR w a n (x :: l)) (hn : n ≤ 100000) :
    Calls Tryz.prog 74 #[.slice a n c, .func (.func 75) #[] #[]] w fun e' w' => e' = .returned (.agg #[.int .i64 (worst x l).1, .int .i64 (worst x l).2]) ∧ Below w.heap.size w w' := by
 have hlen := h.len
 have hn1 : 1 ≤ n := by simp at hlen; omega
 have hng : ¬ ((n : Int) < 1) := by omega
 obtain ⟨b, o, rfl, hb, hc⟩ := h.addr (by omega)
 have h00 := (hc 0 (by omega)).1
 have h01 := (hc 0 (by omega)).2
 have HC := Lib.hid hc
 obtain ⟨x1, x2⟩ := x
 simp only [List.getD_cons_zero, Nat.zero_mul, Nat.add_zero] at h00 h01
 have HH := Lib.hid h
 have HLEN := Lib.hid hlen
 obtain ⟨R, hR⟩ : ∃ R, R = worst (x1, x2) l := ⟨_, rfl⟩
 rw [← hR]
 have HR := Lib.hid hR
 obtain ⟨R1, R2⟩ := R
 simp only
 clear hc h hlen hR
 go_enter Tryz.func74, Tryz.ntmps74
 go_wp2_with fail
 obtain ⟨w1, hW⟩ : ∃ w1, w1 = (w.alloc (Obj.cells #[.int .i64 0, .int .i64 0] 66)).alloc (Obj.cells #[.int .i64 x1, .int .i64 x2] 66) := ⟨_, rfl⟩
 obtain ⟨hb1, k4, k5⟩ := alA2 w (Obj.cells #[.int .i64 0, .int .i64 0] 66) (Obj.cells #[.int .i64 x1, .int .i64 x2] 66)
 rw [← hW] at hb1 k4 k5
 rw [← hW]
 obtain ⟨X4, hX4⟩ : ∃ X, X = w.heap.size := ⟨_, rfl⟩
 obtain ⟨X5, hX5⟩ : ∃ X, X = w.heap.size + 1 := ⟨_, rfl⟩
 rw [← hX5] at k5
 rw [← hX4] at k4
 simp only [← hX5]
 simp only [← hX4]
 have hw4 : w.heap.size ≤ X4 := by omega
 have hw5 : w.heap.size ≤ X5 := by omega
 have n45 : X4 ≠ X5 := by omega
 have K4 := Lib.hid k4
 have K5 := Lib.hid k5
 have HB := Lib.hid hb1
 clear hW hX4 hX5 k4 k5 hb1 h00 h01
 go_loopw [6] (fun v wr => ∃ k : Nat, v = .int .i64 (k : Int) ∧ 1 ≤ k ∧ k ≤ n ∧ Hid (BlkR wr X4 (.cells #[.int .i64 0, .int .i64 0] 66)) ∧ Hid (BlkR wr X5 (.cells #[.int .i64 (worst (x1, x2) (l.take (k - 1))).1, .int .i64 (worst (x1, x2) (l.take (k - 1))).2] 66)) ∧ Hid (Below w.heap.size w wr)) (fun v _ => n - (intOf v).toNat)
 case atStart => exact ⟨1, rfl, by omega, by omega, K4, K5, HB⟩
 case round =>
  clear K4 K5 HB
  obtain ⟨k, rfl, hk1, hk, K4, K5, HB⟩ := hrel
  have i0 : (0 : Int) ≤ (k : Int) := by omega
  by_cases hlt : k < n
  ·have i1 : (k : Int) < (n : Int) := by omega
   have hbr : b < wr.heap.size := by have := HB.out.size; omega
   have hc0 : wr.cell? ⟨b, o + k * 2, none⟩ = _ := (cellB HB.out b (o + k * 2) hb).trans (HC.out k hlt).1
   have hc1 : wr.cell? ⟨b, o + k * 2 + 1, none⟩ = _ := (cellB HB.out b (o + k * 2 + 1) hb).trans (HC.out k hlt).2
   have hstep : worst (x1, x2) (l.take (k + 1 - 1)) = if worse (((x1, x2) :: l).getD k (0, 0)) (worst (x1, x2) (l.take (k - 1))) = true then ((x1, x2) :: l).getD k (0, 0) else worst (x1, x2) (l.take (k - 1)) := by
    obtain ⟨j, rfl⟩ : ∃ j, k = j + 1 := ⟨k - 1, by omega⟩
    have hjl : j < l.length := by have := HLEN.out; simp at this; omega
    rw [Nat.add_sub_cancel, Nat.add_sub_cancel, List.take_add_one, List.getElem?_eq_getElem hjl]
    rw [show ((x1, x2) :: l).getD (j + 1) (0, 0) = l[j] from by simp [List.getD, hjl]]
    exact worst_snoc _ _ _
   generalize ((x1, x2) :: l).getD k (0, 0) = Y at *
   generalize worst (x1, x2) (l.take (k - 1)) = M at *
   have HW := Lib.hid (fun W => wcmp_any Y M W)
   have hneg := cmpS_neg Y M
   generalize cmpS Y M = C at *
   obtain ⟨Y1, Y2⟩ := Y
   obtain ⟨M1, M2⟩ := M
   simp only at hc0 hc1 K5 HW
   have HST := Lib.hid hstep
   have HNG := Lib.hid hneg
   obtain ⟨m0, m1, l5⟩ := blkc2 K5.out
   clear hstep hneg
   go_wp2_with fail
   refine later_of_eq 6 (by kernel_rfl) (by kernel_rfl) ?_; simp only [List.take_succ_cons, List.take_zero, List.drop_succ_cons, List.drop_zero]; repeat go_big_quiet_step(fail)
   refine wpQuiet_nil ?_; intro w6 hb6
   have K4 := Lib.hid (K4.out.below hb6)
   have K5 := Lib.hid (K5.out.below hb6)
   have HB := bwt HB hb6
   have hc0' : w6.cell? ⟨b, o + k * 2, none⟩ = _ := (cellB hb6 b (o + k * 2) hbr).trans hc0
   have hc1' : w6.cell? ⟨b, o + k * 2 + 1, none⟩ = _ := (cellB hb6 b (o + k * 2 + 1) hbr).trans hc1
   have hbr6 : b < w6.heap.size := by have := hb6.size; omega
   clear m0 m1 l5 hc0 hc1 hbr hb6
   go_wp2_with fail
   refine (HW.out _).mono ?_
   rintro e7 w7 ⟨rfl, hb7⟩
   have K4 := Lib.hid (K4.out.below hb7)
   have K5 := Lib.hid (K5.out.below hb7)
   have HB := bwt HB hb7
   have hc0 : w7.cell? ⟨b, o + k * 2, none⟩ = _ := (cellB hb7 b (o + k * 2) hbr6).trans hc0'
   have hc1 : w7.cell? ⟨b, o + k * 2 + 1, none⟩ = _ := (cellB hb7 b (o + k * 2 + 1) hbr6).trans hc1'
   have hbr : b < w7.heap.size := by have := hb7.size; omega
   obtain ⟨m0, m1, _⟩ := blkc2 K5.out
   have f0 := blk_fz K5.out 0
   have f1 := blk_fz K5.out 1
   have l5 := K5.out.lt
   clear hc0' hc1' hbr6 hb7
   by_cases hC : C < 0
   ·have HS := Lib.hid (HST.out.trans (if_pos (HNG.out.1 hC)))
    go_wp2
    have hk5 := blk_st2 K5.out (.int .i64 Y1) (.int .i64 Y2)
    have hk4 := blk_ot2 K4.out n45 (.int .i64 Y1) (.int .i64 Y2)
    refine ⟨⟨k + 1, by go_num, by omega, by omega, Lib.hid hk4, Lib.hid (by rw [HS.out]; exact hk5), Lib.hid ((HB.out.setCell (p := ⟨X5, 0, none⟩) hw5 _).setCell (p := ⟨X5, 1, none⟩) hw5 _)⟩, ?_⟩
    simp only [intOf]; omega
   ·have HS := Lib.hid (HST.out.trans (if_neg (fun h => hC (HNG.out.2 h))))
    go_wp2
    refine ⟨⟨k + 1, by go_num, by omega, by omega, K4, Lib.hid (by rw [HS.out]; exact K5.out), HB⟩, ?_⟩
    simp only [intOf]; omega
  ·obtain rfl : n = k := by omega
   have hk5 : BlkR wr X5 (.cells #[.int .i64 R1, .int .i64 R2] 66) := by
    have h := K5.out
    rw [show l.take (n - 1) = l from List.take_of_length_le (by have := HLEN.out; simp at this; omega), ← HR.out] at h
    exact h
   have HK5 := Lib.hid hk5
   obtain ⟨m0, m1, l5⟩ := blkc2 HK5.out
   obtain ⟨q0, q1, _⟩ := blkc2 K4.out
   have f0 := blk_fz K4.out 0
   have f1 := blk_fz K4.out 1
   have l4 := K4.out.lt
   clear hk5 K5
   go_wp2
   have kw := blk_st2 K4.out (.int .i64 R1) (.int .i64 R2)
   obtain ⟨r0, r1, _⟩ := blkc2 kw
   refine bodyPost_ret (v := .agg #[.int .i64 R1, .int .i64 R2]) (by simp [results, Tryz.results74, go_sem, r0, r1]) rfl ⟨rfl, (HB.out.setCell (p := ⟨X4, 0, none⟩) hw4 _).setCell (p := ⟨X4, 1, none⟩) hw4 _⟩
/- The worst settling: the program. -/
theorem set_eq {r : Reg} {m : Mom} {d t x : Int} {b : Bool} (hr : RegV r) (hm : MomV r m) (h : SetP r m d t x b) : b = (setR r d m).2 ∧ (b = true → t = (((setR r d m).1.1 : Nat) : Int) ∧ x = (setR r d m).1.2) := by
 obtain ⟨T, fr, hrep, rfl, rfl, rfl⟩ := h
 rw [setR_rep hr hm hrep]
 by_cases h : lastM (tick r d) (mvT r d) m T ≤ fr
 ·rw [if_pos h, decide_eq_true h]; exact ⟨rfl, fun _ => ⟨rfl, rfl⟩⟩
 ·rw [if_neg h, decide_eq_false h]; exact ⟨rfl, fun h => absurd h (by decide)⟩
def wSet (r : Reg) (e : Int × Int) (q : Nat) : (Nat × Int) × Bool := setR r (if q % 2 = 0 then e.1 else e.2) ⟨r.lo + ((q / 2 : Nat) : Int), 0⟩
def pS (x : (Nat × Int) × Bool) : Int × Int := ((x.1.1 : Int), x.1.2)
def wLs (r : Reg) (e : Int × Int) (n : Nat) : List (Int × Int) := (List.range n).map fun q => pS (wSet r e q)
theorem wLs_succ (r : Reg) (e : Int × Int) (n : Nat) : wLs r e (n + 1) = wLs r e n ++ [pS (wSet r e n)] := by simp [wLs, List.range_succ]
theorem wLs_len (r : Reg) (e : Int × Int) (n : Nat) : (wLs r e n).length = n := by simp [wLs]
def worstL : List (Int × Int) → Int × Int
 | [] => (0, 0)
 | x :: r => worst x r
theorem worstL_snoc (x : Int × Int) : ∀ l : List (Int × Int), l ≠ [] → worstL (l ++ [x]) = if worse x (worstL l) = true then x else worstL l
 | [], h => absurd rfl h
 | y :: r, _ => worst_snoc x r y
def wN (r : Reg) : Nat := 2 * (r.hi - r.lo + 1).toNat
def worR (r : Reg) (e : Int × Int) : (Int × Int) × Int := if ∀ q, q < wN r → (wSet r e q).2 = true then (worstL (wLs r e (wN r)), 0) else ((0, 0), 21)
theorem worR_bad {r : Reg} {e : Int × Int} {q : Nat} (hq : q < wN r) (h : (wSet r e q).2 = false) : worR r e = ((0, 0), 21) := if_neg (fun hh => by rw [hh q hq] at h; exact absurd h (by decide))
theorem worR_ok {r : Reg} {e : Int × Int} (h : ∀ q, q < wN r → (wSet r e q).2 = true) : worR r e = (worstL (wLs r e (wN r)), 0) := if_pos h
def worE (r : Reg) (e : Int × Int) : Int := firstErr [regE r, swE e.1, swE e.2, unl (decide (e.1 ≤ e.2)) 9]
def worO (r : Reg) (e : Int × Int) : (Int × Int) × Int := if worE r e ≠ 0 then ((0, 0), worE r e) else worR r e
theorem worE_zero {r : Reg} {e : Int × Int} (h : worE r e = 0) : RegV r ∧ (-10000 ≤ e.1 ∧ e.1 ≤ 10000) ∧ (-10000 ≤ e.2 ∧ e.2 ≤ 10000) ∧ e.1 ≤ e.2 := by
 unfold worE at h
 rw [firstErr_zero', firstErr_zero', firstErr_zero', firstErr_zero', regE_zero, swE_zero, swE_zero, unl_zero' (by decide), decide_eq_true_eq] at h
 exact ⟨h.1, h.2.1, h.2.2.1, h.2.2.2.1⟩
theorem infoStl : (Tryz.prog.info? 66).map (fun i => (i.zero, i.size, i.bytes)) = some (some (.agg #[.int .i64 0, .int .i64 0]), 2, 16) := by kernel_rfl
set_option maxHeartbeats 4000000 in
set_option maxRecDepth 100000 in
theorem worstSettling_any (r : Reg) (e : Int × Int) (w : World) :
    Calls Tryz.prog 27 #[.agg #[.int .i64 r.tgt, .int .i64 r.band, .int .i64 r.dly, .int .i64 r.stp, .int .i64 r.lo, .int .i64 r.hi], .agg #[.int .i64 e.1, .int .i64 e.2]] w
     fun e' w' => e' = .returned (.tuple #[.agg #[.int .i64 (worO r e).1.1, .int .i64 (worO r e).1.2], .int .i64 (worO r e).2]) ∧ Below w.heap.size w w' := by
 have HCR := Lib.hid (fun (W : World) => checkReg_any r W)
 have HS1 := Lib.hid (fun (W : World) => swing_any e.1 W)
 have HS2 := Lib.hid (fun (W : World) => swing_any e.2 W)
 have HE := Lib.hid (show worE r e = firstErr [regE r, swE e.1, swE e.2, unl (decide (e.1 ≤ e.2)) 9] from rfl)
 have HO := Lib.hid (show worO r e = if worE r e ≠ 0 then ((0, 0), worE r e) else worR r e from rfl)
 have HST := Lib.hid (fun (h : worE r e = 0) (q : Nat) (hq : q < wN r) (W : World) => show Calls Tryz.prog 70 #[.agg #[.int .i64 r.tgt, .int .i64 r.band, .int .i64 r.dly, .int .i64 r.stp, .int .i64 r.lo, .int .i64 r.hi], .agg #[.int .i64 (r.lo + ((q / 2 : Nat) : Int)), .int .i64 0], .int .i64 (if q % 2 = 0 then e.1 else e.2)] W (fun e' w' => Below W.heap.size W w' ∧ ∃ t x b, (b = (wSet r e q).2 ∧ (b = true → (t, x) = pS (wSet r e q))) ∧ e' = .returned (.tuple #[.agg #[.int .i64 t, .int .i64 x], .bool b])) from by
  obtain ⟨hr, h1, h2, h3⟩ := worE_zero h
  have hm : MomV r ⟨r.lo + ((q / 2 : Nat) : Int), 0⟩ := by
   have := hr.l0; have := hr.l1; have := hr.h1; have := hr.d0
   unfold wN at hq
   exact ⟨⟨by simp only; omega, by simp only; omega⟩, by simp only; omega, by simp only; omega⟩
  refine (settling_any r ⟨r.lo + ((q / 2 : Nat) : Int), 0⟩ (if q % 2 = 0 then e.1 else e.2) W hr hm (by split <;> assumption)).mono ?_
  rintro e' w' ⟨hb, t, x, b, hs, rfl⟩
  obtain ⟨g1, g2⟩ := set_eq hr hm hs
  refine ⟨hb, t, x, b, ⟨g1, fun h => ?_⟩, rfl⟩
  obtain ⟨g3, g4⟩ := g2 h
  exact Prod.ext g3 g4)
 have HNN := Lib.hid (fun (h : worE r e = 0) => show -40 ≤ r.lo ∧ r.lo ≤ r.hi ∧ r.hi ≤ 40 ∧ wN r = 2 * (r.hi - r.lo + 1).toNat from by
  obtain ⟨hr, _⟩ := worE_zero h
  exact ⟨hr.l0, hr.l1, hr.h1, rfl⟩)
 have HBAD := Lib.hid (fun q (hq : q < wN r) (h : (wSet r e q).2 = false) => worR_bad hq h)
 have HGOOD := Lib.hid (fun (h : ∀ q, q < wN r → (wSet r e q).2 = true) => worR_ok h)
 have HLS := Lib.hid (fun n => wLs_succ r e n)
 have HL0 := Lib.hid (show wLs r e 0 = [] from rfl)
 have HLL := Lib.hid (fun n => wLs_len r e n)
 have HLC := Lib.hid (fun n => show wLs r e (n + 1) = pS (wSet r e 0) :: (List.range n).map (fun q => pS (wSet r e (q + 1))) from by
  unfold wLs
  rw [List.range_succ_eq_map, List.map_cons, List.map_map]
  rfl)
 generalize worO r e = RO at *
 generalize worR r e = RR at *
 generalize worE r e = EE at *
 generalize wSet r e = WS at *
 generalize wLs r e = WL at *
 generalize regE r = E1 at *
 generalize wN r = NN at *
 obtain ⟨tgt, band, dly, stp, lo, hi⟩ := r
 obtain ⟨e1, e2⟩ := e
 obtain ⟨⟨R1, R2⟩, R3⟩ := RO
 simp only at HCR HS1 HS2 HE HST HNN ⊢
 generalize swE e1 = E2 at *
 generalize swE e2 = E3 at *
 go_enter Tryz.func27, Tryz.ntmps27
 go_wp2_with fail
 obtain ⟨w3, hW3⟩ : ∃ w3, w3 = ((w.alloc (Obj.cells #[.int .i64 tgt, .int .i64 band, .int .i64 dly, .int .i64 stp, .int .i64 lo, .int .i64 hi] 25)).alloc (Obj.cells #[.int .i64 e1, .int .i64 e2] 23)).alloc (Obj.cells #[.int .i64 0, .int .i64 0] 66) := ⟨_, rfl⟩
 obtain ⟨hb3, k2, k3, k4⟩ := alA3 w (Obj.cells #[.int .i64 tgt, .int .i64 band, .int .i64 dly, .int .i64 stp, .int .i64 lo, .int .i64 hi] 25) (Obj.cells #[.int .i64 e1, .int .i64 e2] 23) (Obj.cells #[.int .i64 0, .int .i64 0] 66)
 rw [← hW3] at hb3 k2 k3 k4
 rw [← hW3]
 obtain ⟨X2, hX2⟩ : ∃ X, X = w.heap.size := ⟨_, rfl⟩
 obtain ⟨X3, hX3⟩ : ∃ X, X = w.heap.size + 1 := ⟨_, rfl⟩
 obtain ⟨X4, hX4⟩ : ∃ X, X = w.heap.size + 1 + 1 := ⟨_, rfl⟩
 rw [← hX4] at k4
 rw [← hX3] at k3
 have k2 : BlkR w3 X2 (.cells #[.int .i64 tgt, .int .i64 band, .int .i64 dly, .int .i64 stp, .int .i64 lo, .int .i64 hi] 25) := by rw [hX2]; exact k2
 simp only [← hX4]
 simp only [← hX3]
 simp only [← hX2]
 have hw4 : w.heap.size ≤ X4 := by omega
 have K2 := Lib.hid k2
 have K3 := Lib.hid k3
 have K4 := Lib.hid k4
 have HB := Lib.hid hb3
 clear hW3 hX2 hX3 hX4 k2 k3 k4 hb3
 obtain ⟨c0, c1, c2, c3, c4, c5, l2⟩ := blkc6 K2.out
 obtain ⟨d0, d1, l3⟩ := blkc2 K3.out
 go_wp2_with fail
 refine later_of_eq 13 (by kernel_rfl) (by kernel_rfl) ?_; simp only [List.take_succ_cons, List.take_zero, List.drop_succ_cons, List.drop_zero]; repeat go_big_quiet_step(first | with_reducible exact calls_later (HCR.out _) | with_reducible exact calls_later (HS1.out _) | with_reducible exact calls_later (HS2.out _))
 refine wpQuiet_nil ?_; intro w5 hb5
 have K2 := Lib.hid (K2.out.below hb5)
 have K3 := Lib.hid (K3.out.below hb5)
 have K4 := Lib.hid (K4.out.below hb5)
 have HB := bwt HB hb5
 clear c0 c1 c2 c3 c4 c5 l2 d0 d1 l3
 obtain ⟨c0, c1, c2, c3, c4, c5, l2⟩ := blkc6 K2.out
 obtain ⟨d0, d1, l3⟩ := blkc2 K3.out
 clear hb5 HCR HS1 HS2
 go_wp2_with fail
 refine (t_unless_any _ _ _).mono ?_
 rintro e6 w6 ⟨rfl, rfl⟩
 go_wp2_with fail
 refine (t_first4 _ _ _ _ _ _ _ _ (by rfl) (by simp)).mono ?_
 rintro e7 w7 ⟨rfl, hw7⟩
 have hb7 : Below w5.heap.size w5 w7 := by rw [← hw7]; (first|exact bwg|go_size)
 have K2 := Lib.hid (K2.out.below hb7)
 have K3 := Lib.hid (K3.out.below hb7)
 have K4 := Lib.hid (K4.out.below hb7)
 have HB := bwt HB hb7
 clear c0 c1 c2 c3 c4 c5 l2 d0 d1 l3
 obtain ⟨c0, c1, c2, c3, c4, c5, l2⟩ := blkc6 K2.out
 obtain ⟨d0, d1, l3⟩ := blkc2 K3.out
 clear hb7 hw7
 rw [← HE.out]
 by_cases h0 : EE = 0
 rotate_left
 ·have x1 := bne_iff_ne.2 h0
  have ho := HO.out
  rw [if_pos h0] at ho
  injection ho with ho1 ho2
  injection ho1 with ho1 ho3
  subst ho1 ho2 ho3
  have f0 := blk_fz K4.out 0
  have f1 := blk_fz K4.out 1
  have l4 := K4.out.lt
  obtain ⟨g0, g1, _⟩ := blkc2 K4.out
  clear HE HO HST HNN h0
  go_wp2
  have kw := blk_st2 K4.out (.int .i64 0) (.int .i64 0)
  obtain ⟨r0, r1, _⟩ := blkc2 kw
  refine bodyPost_ret (v := .tuple #[.agg #[.int .i64 0, .int .i64 0], .int .i64 R3]) (by simp [results, Tryz.results27, go_sem, r0, r1]) rfl ⟨rfl, (HB.out.setCell (p := ⟨X4, 0, none⟩) hw4 _).setCell (p := ⟨X4, 1, none⟩) hw4 _⟩
 ·subst h0
  have HO := Lib.hid (HO.out.trans (if_neg (by exact fun h => h rfl)))
  have HSTT := Lib.hid (HST.out (by trivial))
  have HNNN := Lib.hid (HNN.out (by trivial))
  clear HE HST HNN
  obtain ⟨c0, c1, c2, c3, c4, c5, l2⟩ := blkc6 K2.out
  obtain ⟨d0, d1, l3⟩ := blkc2 K3.out
  go_wp2_with fail
  obtain ⟨hl40, hlh, hh40, hnn⟩ : -40 ≤ lo ∧ lo ≤ hi ∧ hi ≤ 40 ∧ NN = 2 * (hi - lo + 1).toNat := by exact HNNN.out
  have HN2 := Lib.hid hnn
  have hnb : NN ≤ 162 := by rw [hnn]; omega
  obtain ⟨BO, hBO⟩ : ∃ B, B = w7.heap.size := ⟨_, rfl⟩
  have h2B : X2 < BO := by rw [hBO]; exact l2
  have h3B : X3 < BO := by rw [hBO]; exact l3
  have h4B : X4 < BO := by rw [hBO]; exact K4.out.lt
  have HBO := Lib.hid (show BO ≤ w7.heap.size by omega)
  have HWB := Lib.hid (show w.heap.size ≤ BO by rw [hBO]; exact HB.out.size)
  have HB7 := HB
  have K27 := K2
  have K37 := K3
  have K47 := K4
  clear hBO hnn HNNN HB K2 K3 K4
  clear c0 c1 c2 c3 c4 c5 l2 d0 d1 l3
  go_loopw [7, 8] (fun v t wr => ∃ (k : Nat) (av : Option Addr) (cv : Nat), v = .slice av (2 * k) cv ∧ t = .int .i64 (lo + (k : Int)) ∧ 2 * k ≤ NN ∧ Hid (∀ q, q < 2 * k → (WS q).2 = true) ∧ Hid (wr.ownsRow BO 66 2 (.slice av (2 * k) cv) (2 * k) (pcells (WL (2 * k)))) ∧ Hid (Below BO w7 wr)) (fun _ t _ => (hi + 1 - intOf t).toNat)
  case atStart => exact ⟨0, none, 0, rfl, by go_num, by omega, Lib.hid (fun q h => absurd h (by omega)), Lib.hid (by rw [HL0.out]; exact World.ownsRow_nil _ _ _ _), Lib.hid ⟨rfl, rfl, rfl, Nat.le_refl _, fun _ _ => rfl⟩⟩
  case round =>
   obtain ⟨k, av, cv, rfl, rfl, hk, HG, HO2, HBr⟩ := hrel
   have HB := Lib.hid (HB7.out.trans (HBr.out.mono HWB.out))
   have K2 := Lib.hid (show BlkR wr X2 _ from (HBr.out.block _ h2B).trans K27.out)
   have K3 := Lib.hid (show BlkR wr X3 _ from (HBr.out.block _ h3B).trans K37.out)
   have K4 := Lib.hid (show BlkR wr X4 _ from (HBr.out.block _ h4B).trans K47.out)
   obtain ⟨c0, c1, c2, c3, c4, c5, l2⟩ := blkc6 K2.out
   obtain ⟨d0, d1, l3⟩ := blkc2 K3.out
   by_cases hlt : lo + (k : Int) ≤ hi
   ·have hkN : 2 * k + 2 ≤ NN := by have := HN2.out; omega
    go_wp2_with fail
    go_loopw [7, 48] (fun v x ws => ∃ (j : Nat) (av : Option Addr) (cv : Nat), v = .slice av (2 * k + j) cv ∧ x = .int .i64 (j : Int) ∧ j ≤ 2 ∧ Hid (∀ q, q < 2 * k + j → (WS q).2 = true) ∧ Hid (ws.ownsRow BO 66 2 (.slice av (2 * k + j) cv) (2 * k + j) (pcells (WL (2 * k + j)))) ∧ Hid (Below BO w7 ws)) (fun _ x _ => 2 - (intOf x).toNat)
    case atStart => exact ⟨0, av, cv, rfl, rfl, by omega, HG, HO2, HBr⟩
    case round =>
     clear K2 K3 K4 c0 c1 c2 c3 c4 c5 l2 d0 d1 l3 HG HO2 HBr HB
     obtain ⟨j, av, cv, rfl, rfl, hj, HG, HO2, HBr⟩ := hrel
     have HB := Lib.hid (HB7.out.trans (HBr.out.mono HWB.out))
     have K2 := Lib.hid (show BlkR wr X2 _ from (HBr.out.block _ h2B).trans K27.out)
     have K3 := Lib.hid (show BlkR wr X3 _ from (HBr.out.block _ h3B).trans K37.out)
     have K4 := Lib.hid (show BlkR wr X4 _ from (HBr.out.block _ h4B).trans K47.out)
     obtain ⟨c0, c1, c2, c3, c4, c5, l2⟩ := blkc6 K2.out
     obtain ⟨d0, d1, l3⟩ := blkc2 K3.out
     obtain rfl | rfl | rfl : j = 0 ∨ j = 1 ∨ j = 2 := by omega
     ·skip
      have HSK := Lib.hid (HSTT.out (2 * k + 0) (by omega))
      rw [show (2 * k + 0) / 2 = k by omega] at HSK
      rw [show (if (2 * k + 0) % 2 = 0 then e1 else e2) = e1 by rw [show (2 * k + 0) % 2 = 0 by omega]; rfl] at HSK
      have HLk := Lib.hid (HLS.out (2 * k + 0))
      have HBk := Lib.hid (fun h => HBAD.out (2 * k + 0) (by omega) h)
      generalize hwq : WS (2 * k + 0) = WQ at HSK HLk HBk
      have HWQ := Lib.hid hwq
      clear hwq
      go_wp2_with fail
      refine (HSK.out _).mono ?_
      rintro e8 w8 ⟨hb8, t, x, b, ⟨hbq, htx⟩, rfl⟩
      have hO8 := owns_below HO2.out hb8 (fun q hq => (HO2.out.lt q hq).2)
      have K4 := Lib.hid (K4.out.below hb8)
      have HB := bwt HB hb8
      have HBr := Lib.hid (HBr.out.trans (hb8.mono (by have := HBr.out.size; have := HBO.out; omega)))
      have HO8 := Lib.hid hO8
      have hzB : BO ≤ w8.heap.size := by have := HBr.out.size; have := HBO.out; omega
      have HBQ := Lib.hid hbq
      have HTX := Lib.hid htx
      clear c0 c1 c2 c3 c4 c5 l2 d0 d1 l3 hb8 hO8 hbq htx HO2 K2 K3 HSK
      cases b
      ·have hrr := HBk.out HBQ.out.symm
       have ho := HO.out.trans hrr
       injection ho with ho1 ho2
       injection ho1 with ho1 ho3
       subst ho1 ho2 ho3
       have f0 := blk_fz K4.out 0
       have f1 := blk_fz K4.out 1
       have l4 := K4.out.lt
       obtain ⟨g0, g1, _⟩ := blkc2 K4.out
       clear hrr HBAD HGOOD HSTT
       go_wp2
       have kw := blk_al (blk_st2 K4.out (.int .i64 0) (.int .i64 0)) (Obj.cells #[.int .i64 t, .int .i64 x] 66)
       obtain ⟨r0, r1, _⟩ := blkc2 kw
       have hbz := (HB.out.setCell (p := ⟨X4, 0, none⟩) hw4 (.int .i64 0)).setCell (p := ⟨X4, 1, none⟩) hw4 (.int .i64 0)
       refine bodyPost_ret (v := .tuple #[.agg #[.int .i64 0, .int .i64 0], .int .i64 21]) (by simp [results, Tryz.results27, go_sem, r0, r1]) rfl ⟨rfl, hbz.alloc hbz.size _⟩
      ·have htx := HTX.out (by rfl)
       have HLx := Lib.hid (show WL (2 * k + 0 + 1) = WL (2 * k + 0) ++ [(t, x)] from by rw [HLk.out, htx])
       have HG2 := Lib.hid (show ∀ q, q < 2 * k + (0 + 1) → (WS q).2 = true from fun q hq => by
        by_cases hqq : q = 2 * k + 0
        ·subst hqq; exact HWQ.out ▸ HBQ.out.symm
        ·exact HG.out q (by omega))
       have HT := Lib.hid (show pcells (WL (2 * k + 0 + 1)) = pcells (WL (2 * k + 0)) ++ [.int .i64 t, .int .i64 x] from by rw [HLx.out, pcells_append]; rfl)
       have HOA := Lib.hid ((HO8.out.alloc (Obj.cells #[.int .i64 t, .int .i64 x] 66)).alloc (Obj.cells #[.int .i64 t, .int .i64 x] 66))
       have HSL := Lib.hid (show SlR ((w8.alloc (Obj.cells #[.int .i64 t, .int .i64 x] 66)).alloc (Obj.cells #[.int .i64 t, .int .i64 x] 66)) (some ⟨w8.heap.size + 1, 0, none⟩) 1 2 [.int .i64 t, .int .i64 x] from SlR.lit (w8.alloc (Obj.cells #[.int .i64 t, .int .i64 x] 66)) _ [.int .i64 t, .int .i64 x] _ _ 1 2 rfl (by simp) rfl (by omega))
       have HBA := Lib.hid (show Below BO w7 ((w8.alloc (Obj.cells #[.int .i64 t, .int .i64 x] 66)).alloc (Obj.cells #[.int .i64 t, .int .i64 x] 66)) from (HBr.out.alloc hzB _).alloc (by rw [World.size_alloc]; omega) _)
       have hzA : BO ≤ ((w8.alloc (Obj.cells #[.int .i64 t, .int .i64 x] 66)).alloc (Obj.cells #[.int .i64 t, .int .i64 x] 66)).heap.size := by rw [World.size_alloc, World.size_alloc]; omega
       clear htx HTX HBQ HLx HLk HBk HB K4
       go_wp2_with (at_builtin; refine wpList_append_sl _ rfl _ _ 136 rfl BO 66 _ 2 16 Tryz.underlying136 infoStl rfl (by omega) _ _ _ rfl HOA.out _ 1 1 [.int .i64 t, .int .i64 x] rfl HSL.out (by intro u hu; simp at hu; rcases hu with rfl | rfl <;> rfl) (by omega) (by omega) hzA ?_)
       intro v2 w2 hown2 hgr2 hb2
       obtain ⟨av2, cv2, rfl, _, _⟩ := owns_slice hown2
       have HO9 := Lib.hid (show w2.ownsRow BO 66 2 (.slice av2 (2 * k + (0 + 1)) cv2) (2 * k + (0 + 1)) (pcells (WL (2 * k + (0 + 1)))) from by
        rw [show 2 * k + (0 + 1) = 2 * k + 0 + 1 from rfl, HT.out]
        exact hown2)
       have HB9 := Lib.hid (HBA.out.trans hb2)
       clear hown2 hgr2 hb2 HT HOA HSL HBA hzA
       go_wp2
       refine ⟨⟨0 + 1, av2, cv2, rfl, by go_num, by omega, HG2, HO9, HB9⟩, ?_⟩
       simp only [intOf]; omega
     ·skip
      have HSK := Lib.hid (HSTT.out (2 * k + 1) (by omega))
      rw [show (2 * k + 1) / 2 = k by omega] at HSK
      rw [show (if (2 * k + 1) % 2 = 0 then e1 else e2) = e2 by rw [show (2 * k + 1) % 2 = 1 by omega]; rfl] at HSK
      have HLk := Lib.hid (HLS.out (2 * k + 1))
      have HBk := Lib.hid (fun h => HBAD.out (2 * k + 1) (by omega) h)
      generalize hwq : WS (2 * k + 1) = WQ at HSK HLk HBk
      have HWQ := Lib.hid hwq
      clear hwq
      go_wp2_with fail
      refine (HSK.out _).mono ?_
      rintro e8 w8 ⟨hb8, t, x, b, ⟨hbq, htx⟩, rfl⟩
      have hO8 := owns_below HO2.out hb8 (fun q hq => (HO2.out.lt q hq).2)
      have K4 := Lib.hid (K4.out.below hb8)
      have HB := bwt HB hb8
      have HBr := Lib.hid (HBr.out.trans (hb8.mono (by have := HBr.out.size; have := HBO.out; omega)))
      have HO8 := Lib.hid hO8
      have hzB : BO ≤ w8.heap.size := by have := HBr.out.size; have := HBO.out; omega
      have HBQ := Lib.hid hbq
      have HTX := Lib.hid htx
      clear c0 c1 c2 c3 c4 c5 l2 d0 d1 l3 hb8 hO8 hbq htx HO2 K2 K3 HSK
      cases b
      ·have hrr := HBk.out HBQ.out.symm
       have ho := HO.out.trans hrr
       injection ho with ho1 ho2
       injection ho1 with ho1 ho3
       subst ho1 ho2 ho3
       have f0 := blk_fz K4.out 0
       have f1 := blk_fz K4.out 1
       have l4 := K4.out.lt
       obtain ⟨g0, g1, _⟩ := blkc2 K4.out
       clear hrr HBAD HGOOD HSTT
       go_wp2
       have kw := blk_al (blk_st2 K4.out (.int .i64 0) (.int .i64 0)) (Obj.cells #[.int .i64 t, .int .i64 x] 66)
       obtain ⟨r0, r1, _⟩ := blkc2 kw
       have hbz := (HB.out.setCell (p := ⟨X4, 0, none⟩) hw4 (.int .i64 0)).setCell (p := ⟨X4, 1, none⟩) hw4 (.int .i64 0)
       refine bodyPost_ret (v := .tuple #[.agg #[.int .i64 0, .int .i64 0], .int .i64 21]) (by simp [results, Tryz.results27, go_sem, r0, r1]) rfl ⟨rfl, hbz.alloc hbz.size _⟩
      ·have htx := HTX.out (by rfl)
       have HLx := Lib.hid (show WL (2 * k + 1 + 1) = WL (2 * k + 1) ++ [(t, x)] from by rw [HLk.out, htx])
       have HG2 := Lib.hid (show ∀ q, q < 2 * k + (1 + 1) → (WS q).2 = true from fun q hq => by
        by_cases hqq : q = 2 * k + 1
        ·subst hqq; exact HWQ.out ▸ HBQ.out.symm
        ·exact HG.out q (by omega))
       have HT := Lib.hid (show pcells (WL (2 * k + 1 + 1)) = pcells (WL (2 * k + 1)) ++ [.int .i64 t, .int .i64 x] from by rw [HLx.out, pcells_append]; rfl)
       have HOA := Lib.hid ((HO8.out.alloc (Obj.cells #[.int .i64 t, .int .i64 x] 66)).alloc (Obj.cells #[.int .i64 t, .int .i64 x] 66))
       have HSL := Lib.hid (show SlR ((w8.alloc (Obj.cells #[.int .i64 t, .int .i64 x] 66)).alloc (Obj.cells #[.int .i64 t, .int .i64 x] 66)) (some ⟨w8.heap.size + 1, 0, none⟩) 1 2 [.int .i64 t, .int .i64 x] from SlR.lit (w8.alloc (Obj.cells #[.int .i64 t, .int .i64 x] 66)) _ [.int .i64 t, .int .i64 x] _ _ 1 2 rfl (by simp) rfl (by omega))
       have HBA := Lib.hid (show Below BO w7 ((w8.alloc (Obj.cells #[.int .i64 t, .int .i64 x] 66)).alloc (Obj.cells #[.int .i64 t, .int .i64 x] 66)) from (HBr.out.alloc hzB _).alloc (by rw [World.size_alloc]; omega) _)
       have hzA : BO ≤ ((w8.alloc (Obj.cells #[.int .i64 t, .int .i64 x] 66)).alloc (Obj.cells #[.int .i64 t, .int .i64 x] 66)).heap.size := by rw [World.size_alloc, World.size_alloc]; omega
       clear htx HTX HBQ HLx HLk HBk HB K4
       go_wp2_with (at_builtin; refine wpList_append_sl _ rfl _ _ 136 rfl BO 66 _ 2 16 Tryz.underlying136 infoStl rfl (by omega) _ _ _ rfl HOA.out _ 1 1 [.int .i64 t, .int .i64 x] rfl HSL.out (by intro u hu; simp at hu; rcases hu with rfl | rfl <;> rfl) (by omega) (by omega) hzA ?_)
       intro v2 w2 hown2 hgr2 hb2
       obtain ⟨av2, cv2, rfl, _, _⟩ := owns_slice hown2
       have HO9 := Lib.hid (show w2.ownsRow BO 66 2 (.slice av2 (2 * k + (1 + 1)) cv2) (2 * k + (1 + 1)) (pcells (WL (2 * k + (1 + 1)))) from by
        rw [show 2 * k + (1 + 1) = 2 * k + 1 + 1 from rfl, HT.out]
        exact hown2)
       have HB9 := Lib.hid (HBA.out.trans hb2)
       clear hown2 hgr2 hb2 HT HOA HSL HBA hzA
       go_wp2
       refine ⟨⟨1 + 1, av2, cv2, rfl, by go_num, by omega, HG2, HO9, HB9⟩, ?_⟩
       simp only [intOf]; omega
     ·go_wp2_with fail
      refine ⟨⟨k + 1, av, cv, rfl, by go_num, by omega, HG, HO2, HBr⟩, ?_⟩
      simp only [intOf]; omega
   ·have hkN : 2 * k = NN := by have := HN2.out; omega
    have hmf : ∃ x l, WL NN = x :: l ∧ worstL (WL NN) = worst x l := by
     obtain ⟨n', hn'⟩ : ∃ n', NN = n' + 1 := ⟨NN - 1, by have := HN2.out; omega⟩
     rw [hn', HLC.out n']
     exact ⟨_, _, rfl, rfl⟩
    obtain ⟨x, l, hxl, hwl⟩ := hmf
    have hrr := HGOOD.out (fun q hq => HG.out q (by omega))
    have ho := HO.out.trans hrr
    rw [hwl] at ho
    injection ho with ho1 ho2
    have HR1 := Lib.hid ho1
    have hpr : PairsR wr av NN (x :: l) := by
     have h : SlR wr av (2 * k) 2 (pcells (WL (2 * k))) := SlR.of_owns HO2.out
     rw [hkN, hxl] at h
     exact h
    have HPR := Lib.hid hpr
    subst ho2
    have HKN := Lib.hid hkN
    clear hxl hwl hrr hpr HLC HLS HL0 HSTT HBAD HGOOD
    go_wp2_with fail
    refine (minFunc_any x l av NN cv wr HPR.out (by omega)).mono ?_
    rintro e9 w9 ⟨rfl, hb9⟩
    rw [← HR1.out]
    simp only
    have K4 := Lib.hid (K4.out.below hb9)
    have HB := bwt HB hb9
    have f0 := blk_fz K4.out 0
    have f1 := blk_fz K4.out 1
    have l4 := K4.out.lt
    obtain ⟨g0, g1, _⟩ := blkc2 K4.out
    clear hb9 c0 c1 c2 c3 c4 c5 l2 d0 d1 l3
    go_wp2
    have kw := blk_st2 K4.out (.int .i64 R1) (.int .i64 R2)
    obtain ⟨r0, r1, _⟩ := blkc2 kw
    refine bodyPost_ret (v := .tuple #[.agg #[.int .i64 R1, .int .i64 R2], .int .i64 0]) (by simp [results, Tryz.results27, go_sem, r0, r1]) rfl ⟨rfl, (HB.out.setCell (p := ⟨X4, 0, none⟩) hw4 _).setCell (p := ⟨X4, 1, none⟩) hw4 _⟩
end Go.Proofs.YtppkckbnjnenfaaGreat
