import Derived.Test.YtppkckbnjnenfaaGreatProg
import Derived.ChangeSlices
import Derived.Lib.SmallJoins
import Derived.ProofKit
import Derived.OpenShut
import Derived.ChangeOld
import Derived.Below
import Derived.Test.YtppkckbnjnenfaaGreatMTAwk
import Derived.Test.YtppkckbnjnenfaaGreatTWorR
/- The law TapSettles: the settling for a disturbance, and the worst settling, are as specified. -/
namespace Go.Proofs.YtppkckbnjnenfaaGreat
open Go.RowKit Go.Shelf
set_option linter.unusedVariables false
set_option linter.unusedSimpArgs false
theorem fs1 {x : Int} {l : List Int} (h : x ≠ 0) : firstErr (x :: l) = x := by show (if x = 0 then _ else x) = x; rw [if_neg h]
theorem fs0 {l : List Int} : firstErr (0 :: l) = firstErr l := by show (if (0 : Int) = 0 then _ else _) = _; rw [if_pos rfl]
structure SetL (r : Reg) (m : Mom) (d : Int) (e : Int × Int) (t x E : Int) (WO : (Int × Int) × Int) : Prop where
 pa : regE r ≠ 0 → t = 0 ∧ x = 0 ∧ E = regE r ∧ WO = ((0, 0), regE r)
 pb : regE r = 0 → momE r m ≠ 0 → t = 0 ∧ x = 0 ∧ E = momE r m
 pc : regE r = 0 → momE r m = 0 → swE d ≠ 0 → t = 0 ∧ x = 0 ∧ E = swE d
 pd : regE r = 0 → momE r m = 0 → swE d = 0 → (setR r d m).2 = false → t = 0 ∧ x = 0 ∧ E = 21
 pe : regE r = 0 → momE r m = 0 → swE d = 0 → (setR r d m).2 = true → (t, x) = pS (setR r d m) ∧ E = 0
theorem setLaw {r : Reg} {m : Mom} {d t x E : Int} (e : Int × Int) (h : SetO r m d t x E) : SetL r m d e t x E (worO r e) := by
 have hg : rgdE r m d = firstErr [regE r, momE r m, swE d] := rfl
 have hw : worE r e = firstErr [regE r, swE e.1, swE e.2, unl (decide (e.1 ≤ e.2)) 9] := rfl
 have bad : ∀ c, c ≠ 0 → rgdE r m d = c → t = 0 ∧ x = 0 ∧ E = c := by
  intro c hc hr
  rcases h with ⟨h1, h2, h3, h4⟩ | ⟨h1, _⟩
  ·exact ⟨h2, h3, h4.trans hr⟩
  ·rw [hr] at h1; exact absurd h1 hc
 refine ⟨fun h1 => ?_, fun h1 h2 => ?_, fun h1 h2 h3 => ?_, fun h1 h2 h3 h4 => ?_, fun h1 h2 h3 h4 => ?_⟩
 ·obtain ⟨a, b, c⟩ := bad _ h1 (by rw [hg]; exact fs1 h1)
  refine ⟨a, b, c, ?_⟩
  have hwe : worE r e = regE r := by rw [hw]; exact fs1 h1
  unfold worO
  rw [if_pos (by rw [hwe]; exact h1), hwe]
 ·exact bad _ h2 (by rw [hg, h1, fs0]; exact fs1 h2)
 ·exact bad _ h3 (by rw [hg, h1, fs0, h2, fs0]; exact fs1 h3)
 ·have h0 : rgdE r m d = 0 := by rw [hg, h1, fs0, h2, fs0, h3, fs0]; rfl
  rcases h with ⟨h5, _⟩ | ⟨_, t', x', b, hs, h6⟩
  ·exact absurd h0 h5
  ·obtain ⟨g1, g2⟩ := set_eq (regE_zero.1 h1) (momE_zero.1 h2) hs
   rcases h6 with ⟨hb, _⟩ | ⟨hb, rfl, rfl, rfl⟩
   ·rw [hb, h4] at g1; exact absurd g1 (by decide)
   ·exact ⟨rfl, rfl, rfl⟩
 ·have h0 : rgdE r m d = 0 := by rw [hg, h1, fs0, h2, fs0, h3, fs0]; rfl
  rcases h with ⟨h5, _⟩ | ⟨_, t', x', b, hs, h6⟩
  ·exact absurd h0 h5
  ·obtain ⟨g1, g2⟩ := set_eq (regE_zero.1 h1) (momE_zero.1 h2) hs
   rcases h6 with ⟨hb, rfl, rfl, rfl⟩ | ⟨hb, _⟩
   ·obtain ⟨g3, g4⟩ := g2 hb
    exact ⟨Prod.ext g3 g4, rfl⟩
   ·rw [hb, h4] at g1; exact absurd g1 (by decide)
set_option maxHeartbeats 4000000 in
set_option maxRecDepth 100000 in
theorem set_law (r : Reg) (m : Mom) (d : Int) (en : Int × Int) (w : World) :
    Calls Tryz.prog 5 #[.agg #[.int .i64 r.tgt, .int .i64 r.band, .int .i64 r.dly, .int .i64 r.stp, .int .i64 r.lo, .int .i64 r.hi], .agg #[.int .i64 m.tap, .int .i64 m.wait, .int .i64 d], .agg #[.int .i64 en.1, .int .i64 en.2]] w fun e' w' => e' = .returned (.bool true) ∧ Below w.heap.size w w' := by
 have HSO := Lib.hid (fun W => (settlingOf_any r m d W).mono (fun e' w' h => show Below W.heap.size W w' ∧ ∃ t x e, e' = .returned (.tuple #[.agg #[.int .i64 t, .int .i64 x], .int .i64 e]) ∧ SetL r m d en t x e (worO r en) from ⟨h.1, by obtain ⟨t, x, e, h1, h2⟩ := h.2; exact ⟨t, x, e, h1, setLaw en h2⟩⟩))
 have HWO := Lib.hid (fun W => worstSettling_any r en W)
 have HRE := Lib.hid (fun W => rRegulatorErr_any r W)
 have HRW := Lib.hid (fun (h : regE r = 0) W => rWorst_any r en W (regE_zero.1 h))
 have HME := Lib.hid (fun (h : regE r = 0) W => rMomentErr_any r m W (regE_zero.1 h))
 have HSE := Lib.hid (fun W => rSwingErr_any d W)
 have HRS := Lib.hid (fun (h1 : regE r = 0) (h2 : momE r m = 0) (h3 : swE d = 0) W => show Calls Tryz.prog 31 #[.agg #[.int .i64 r.tgt, .int .i64 r.band, .int .i64 r.dly, .int .i64 r.stp, .int .i64 r.lo, .int .i64 r.hi], .agg #[.int .i64 m.tap, .int .i64 m.wait], .int .i64 d] W (fun e' w' => e' = .returned (.tuple #[.agg #[.int .i64 (pS (setR r d m)).1, .int .i64 (pS (setR r d m)).2], .bool (setR r d m).2]) ∧ Below W.heap.size W w') from rSettling_any r m d W (regE_zero.1 h1) (momE_zero.1 h2) (swE_zero.1 h3))
 have HRV := Lib.hid (fun (h : regE r = 0) => show -40 ≤ r.lo ∧ r.lo ≤ r.hi ∧ r.hi ≤ 40 from by have hr := regE_zero.1 h; exact ⟨hr.l0, hr.l1, hr.h1⟩)
 have HLW := Lib.hid (fun t x E (h : SetL r m d en t x E (worO r en)) => And.intro h.pa (And.intro h.pb (And.intro h.pc (And.intro h.pd h.pe))))
 generalize SetL r m d en = SL at *
 generalize worO r en = WO at *
 generalize regE r = E1 at *
 generalize momE r m = E2 at *
 generalize swE d = E3 at *
 generalize setR r d m = ST at *
 obtain ⟨tgt, band, dly, stp, lo, hi⟩ := r
 obtain ⟨tap, wait⟩ := m
 obtain ⟨e1, e2⟩ := en
 obtain ⟨⟨W1, W2⟩, W3⟩ := WO
 generalize hP : pS ST = P at *
 generalize hB : ST.2 = SB at *
 obtain ⟨P1, P2⟩ := P
 simp only at *
 clear hP hB
 go_enter Tryz.func5, Tryz.ntmps5
 go_wp2_with fail
 obtain ⟨w1, hW1⟩ : ∃ w1, w1 = ((w.alloc (Obj.cells #[.int .i64 tgt, .int .i64 band, .int .i64 dly, .int .i64 stp, .int .i64 lo, .int .i64 hi] 25)).alloc (Obj.cells #[.int .i64 tap, .int .i64 wait, .int .i64 d] 64)).alloc (Obj.cells #[.int .i64 e1, .int .i64 e2] 23) := ⟨_, rfl⟩
 obtain ⟨hb1, k2, k3, k4⟩ := alA3 w (Obj.cells #[.int .i64 tgt, .int .i64 band, .int .i64 dly, .int .i64 stp, .int .i64 lo, .int .i64 hi] 25) (Obj.cells #[.int .i64 tap, .int .i64 wait, .int .i64 d] 64) (Obj.cells #[.int .i64 e1, .int .i64 e2] 23)
 rw [← hW1] at hb1 k2 k3 k4
 rw [← hW1]
 obtain ⟨X2, hX2⟩ : ∃ X, X = w.heap.size := ⟨_, rfl⟩
 obtain ⟨X3, hX3⟩ : ∃ X, X = w.heap.size + 1 := ⟨_, rfl⟩
 obtain ⟨X4, hX4⟩ : ∃ X, X = w.heap.size + 1 + 1 := ⟨_, rfl⟩
 rw [← hX4] at k4
 rw [← hX3] at k3
 have k2 : BlkR w1 X2 (.cells #[.int .i64 tgt, .int .i64 band, .int .i64 dly, .int .i64 stp, .int .i64 lo, .int .i64 hi] 25) := by rw [hX2]; exact k2
 simp only [← hX4]
 simp only [← hX3]
 simp only [← hX2]
 clear hW1 hX2 hX3 hX4
 refine (awake_any w1).mono ?_
 rintro e2 w2 ⟨rfl, hb2⟩
 have K2 := Lib.hid (k2.below hb2)
 have K3 := Lib.hid (k3.below hb2)
 have K4 := Lib.hid (k4.below hb2)
 have HB := Lib.hid (hb1.trans (hb2.mono hb1.size))
 clear hb1 hb2 k2 k3 k4
 obtain ⟨c0, c1, c2, c3, c4, c5, l2⟩ := blkc6 K2.out
 obtain ⟨d0, d1, d2, l3⟩ := blkc3 K3.out
 obtain ⟨g0, g1, l4⟩ := blkc2 K4.out
 go_wp2_with fail
 refine (HSO.out _).mono ?_
 rintro e3 w3 ⟨hb3, t, x, E, rfl, hsl⟩
 have HL := Lib.hid (HLW.out _ _ _ hsl)
 clear c0 c1 c2 c3 c4 c5 l2 d0 d1 d2 l3 g0 g1 l4
 have K2 := Lib.hid (K2.out.below hb3)
 have K3 := Lib.hid (K3.out.below hb3)
 have K4 := Lib.hid (K4.out.below hb3)
 have HB := bwt HB hb3
 obtain ⟨c0, c1, c2, c3, c4, c5, l2⟩ := blkc6 K2.out
 obtain ⟨d0, d1, d2, l3⟩ := blkc3 K3.out
 obtain ⟨g0, g1, l4⟩ := blkc2 K4.out
 clear hb3 hsl HLW HSO
 go_wp2_with fail
 obtain ⟨w4, hW4⟩ : ∃ w4, w4 = w3.alloc (Obj.cells #[.int .i64 t, .int .i64 x] 66) := ⟨_, rfl⟩
 obtain ⟨hb4, k7⟩ := alA1 w3 (Obj.cells #[.int .i64 t, .int .i64 x] 66)
 rw [← hW4] at hb4 k7
 rw [← hW4]
 obtain ⟨X7, hX7⟩ : ∃ X, X = w3.heap.size := ⟨_, rfl⟩
 rw [← hX7] at k7
 simp only [← hX7]
 have K7 := Lib.hid k7
 clear c0 c1 c2 c3 c4 c5 l2 d0 d1 d2 l3 g0 g1 l4
 have K2 := Lib.hid (K2.out.below hb4)
 have K3 := Lib.hid (K3.out.below hb4)
 have K4 := Lib.hid (K4.out.below hb4)
 have HB := bwt HB hb4
 obtain ⟨c0, c1, c2, c3, c4, c5, l2⟩ := blkc6 K2.out
 obtain ⟨d0, d1, d2, l3⟩ := blkc3 K3.out
 obtain ⟨g0, g1, l4⟩ := blkc2 K4.out
 clear hW4 hX7 hb4 k7
 refine (HWO.out _).mono ?_
 rintro e5 w5 ⟨rfl, hb5⟩
 have K7 := Lib.hid (K7.out.below hb5)
 clear c0 c1 c2 c3 c4 c5 l2 d0 d1 d2 l3 g0 g1 l4
 have K2 := Lib.hid (K2.out.below hb5)
 have K3 := Lib.hid (K3.out.below hb5)
 have K4 := Lib.hid (K4.out.below hb5)
 have HB := bwt HB hb5
 obtain ⟨c0, c1, c2, c3, c4, c5, l2⟩ := blkc6 K2.out
 obtain ⟨d0, d1, d2, l3⟩ := blkc3 K3.out
 obtain ⟨g0, g1, l4⟩ := blkc2 K4.out
 clear hb5 HWO
 go_wp2_with fail
 obtain ⟨w6, hW6⟩ : ∃ w6, w6 = (w5.alloc (Obj.cells #[.int .i64 W1, .int .i64 W2] 66)).alloc (Obj.cells #[.int .i64 0, .int .i64 0] 66) := ⟨_, rfl⟩
 obtain ⟨hb6, k9, kN⟩ := alA2 w5 (Obj.cells #[.int .i64 W1, .int .i64 W2] 66) (Obj.cells #[.int .i64 0, .int .i64 0] 66)
 rw [← hW6] at hb6 k9 kN
 rw [← hW6]
 obtain ⟨X9, hX9⟩ : ∃ X, X = w5.heap.size := ⟨_, rfl⟩
 obtain ⟨XN, hXN⟩ : ∃ X, X = w5.heap.size + 1 := ⟨_, rfl⟩
 rw [← hXN] at kN
 rw [← hX9] at k9
 simp only [← hXN]
 simp only [← hX9]
 have K7 := Lib.hid (K7.out.below hb6)
 have K9 := Lib.hid k9
 have KN := Lib.hid kN
 clear c0 c1 c2 c3 c4 c5 l2 d0 d1 d2 l3 g0 g1 l4
 have K2 := Lib.hid (K2.out.below hb6)
 have K3 := Lib.hid (K3.out.below hb6)
 have K4 := Lib.hid (K4.out.below hb6)
 have HB := bwt HB hb6
 obtain ⟨c0, c1, c2, c3, c4, c5, l2⟩ := blkc6 K2.out
 obtain ⟨d0, d1, d2, l3⟩ := blkc3 K3.out
 obtain ⟨g0, g1, l4⟩ := blkc2 K4.out
 clear hW6 hX9 hXN hb6 k9 kN
 refine (HRE.out _).mono ?_
 rintro e7 w7 ⟨rfl, hb7⟩
 clear c0 c1 c2 c3 c4 c5 l2 d0 d1 d2 l3 g0 g1 l4
 have K2 := Lib.hid (K2.out.below hb7)
 have K3 := Lib.hid (K3.out.below hb7)
 have K4 := Lib.hid (K4.out.below hb7)
 have HB := bwt HB hb7
 obtain ⟨c0, c1, c2, c3, c4, c5, l2⟩ := blkc6 K2.out
 obtain ⟨d0, d1, d2, l3⟩ := blkc3 K3.out
 obtain ⟨g0, g1, l4⟩ := blkc2 K4.out
 have K7 := Lib.hid (K7.out.below hb7)
 have K9 := Lib.hid (K9.out.below hb7)
 have KN := Lib.hid (KN.out.below hb7)
 clear hb7
 clear HRE
 obtain ⟨hpa, hpb, hpc, hpd, hpe⟩ := HL.out
 have HPA := Lib.hid hpa
 have HPB := Lib.hid hpb
 have HPC := Lib.hid hpc
 have HPD := Lib.hid hpd
 have HPE := Lib.hid hpe
 clear hpa hpb hpc hpd hpe HL
 by_cases h1 : E1 = 0
 rotate_left
 ·obtain ⟨rfl, rfl, rfl, hwo⟩ := HPA.out h1
  injection hwo with ho1 ho2
  injection ho1 with ho1 ho3
  subst ho1 ho2 ho3
  have x1 := bne_iff_ne.2 h1
  clear HPA HPB HPC HPD HPE HRW HME HRS HRV h1
  obtain ⟨s0, s1, l7⟩ := blkc2 K7.out
  obtain ⟨v0, v1, l9⟩ := blkc2 K9.out
  obtain ⟨n0, n1, lN⟩ := blkc2 KN.out
  go_wp2
  go_ret
  exact ⟨ret_bool (by simp), HB.out⟩
 subst h1
 have HRW1 := Lib.hid (HRW.out (by trivial))
 have HME1 := Lib.hid (HME.out (by trivial))
 have HRS1 := Lib.hid (fun a b => HRS.out (by trivial) a b)
 obtain ⟨hl1, hl2, hl3⟩ := HRV.out (by trivial)
 have HPB1 := Lib.hid (fun h => HPB.out (by trivial) h)
 have HPC1 := Lib.hid (fun h1 h2 => HPC.out (by trivial) h1 h2)
 have HPD1 := Lib.hid (fun h1 h2 h3 => HPD.out (by trivial) h1 h2 h3)
 have HPE1 := Lib.hid (fun h1 h2 h3 => HPE.out (by trivial) h1 h2 h3)
 clear HPA HPB HPC HPD HPE HRW HME HRS HRV
 have wsub : IntKind.i64.wrap (hi - lo) = hi - lo := by rw [IntKind.wrap_i64]; omega
 by_cases h12 : hi - lo ≤ 12
 ·go_wp2_with fail
  refine (HRW1.out _).mono ?_
  rintro e8 w8 ⟨rfl, hb8⟩
  clear c0 c1 c2 c3 c4 c5 l2 d0 d1 d2 l3 g0 g1 l4
  have K2 := Lib.hid (K2.out.below hb8)
  have K3 := Lib.hid (K3.out.below hb8)
  have K4 := Lib.hid (K4.out.below hb8)
  have HB := bwt HB hb8
  obtain ⟨c0, c1, c2, c3, c4, c5, l2⟩ := blkc6 K2.out
  obtain ⟨d0, d1, d2, l3⟩ := blkc3 K3.out
  obtain ⟨g0, g1, l4⟩ := blkc2 K4.out
  have K7 := Lib.hid (K7.out.below hb8)
  have K9 := Lib.hid (K9.out.below hb8)
  have KN := Lib.hid (KN.out.below hb8)
  clear hb8
  clear HRW1
  have x3 : (W3 != W3) = false := by simp
  obtain ⟨s0, s1, l7⟩ := blkc2 K7.out
  obtain ⟨v0, v1, l9⟩ := blkc2 K9.out
  obtain ⟨n0, n1, lN⟩ := blkc2 KN.out
  go_wp2_with fail
  obtain ⟨w9, hW9⟩ : ∃ w9, w9 = w8.alloc (Obj.cells #[.int .i64 W1, .int .i64 W2] 66) := ⟨_, rfl⟩
  have hb9 : Below w8.heap.size w8 w9 := by rw [hW9]; exact (alA1 _ _).1
  rw [← hW9]
  clear hW9 s0 s1 l7 v0 v1 l9 n0 n1 lN
  clear c0 c1 c2 c3 c4 c5 l2 d0 d1 d2 l3 g0 g1 l4
  have K2 := Lib.hid (K2.out.below hb9)
  have K3 := Lib.hid (K3.out.below hb9)
  have K4 := Lib.hid (K4.out.below hb9)
  have HB := bwt HB hb9
  obtain ⟨c0, c1, c2, c3, c4, c5, l2⟩ := blkc6 K2.out
  obtain ⟨d0, d1, d2, l3⟩ := blkc3 K3.out
  obtain ⟨g0, g1, l4⟩ := blkc2 K4.out
  have K7 := Lib.hid (K7.out.below hb9)
  have K9 := Lib.hid (K9.out.below hb9)
  have KN := Lib.hid (KN.out.below hb9)
  clear hb9
  refine (HME1.out _).mono ?_
  rintro e10 w10 ⟨rfl, hb10⟩
  clear c0 c1 c2 c3 c4 c5 l2 d0 d1 d2 l3 g0 g1 l4
  have K2 := Lib.hid (K2.out.below hb10)
  have K3 := Lib.hid (K3.out.below hb10)
  have K4 := Lib.hid (K4.out.below hb10)
  have HB := bwt HB hb10
  obtain ⟨c0, c1, c2, c3, c4, c5, l2⟩ := blkc6 K2.out
  obtain ⟨d0, d1, d2, l3⟩ := blkc3 K3.out
  obtain ⟨g0, g1, l4⟩ := blkc2 K4.out
  have K7 := Lib.hid (K7.out.below hb10)
  have K9 := Lib.hid (K9.out.below hb10)
  have KN := Lib.hid (KN.out.below hb10)
  clear hb10
  clear HME1
  by_cases h2 : E2 = 0
  rotate_left
  ·obtain ⟨rfl, rfl, rfl⟩ := HPB1.out h2
   have x2 := bne_iff_ne.2 h2
   clear HPB1 HPC1 HPD1 HPE1 HRS1 h2
   obtain ⟨s0, s1, l7⟩ := blkc2 K7.out
   obtain ⟨v0, v1, l9⟩ := blkc2 K9.out
   obtain ⟨n0, n1, lN⟩ := blkc2 KN.out
   go_wp2
   go_ret
   exact ⟨ret_bool (by simp), HB.out⟩
  subst h2
  have HPC2 := Lib.hid (fun h => HPC1.out (by trivial) h)
  have HPD2 := Lib.hid (fun h1 h2 => HPD1.out (by trivial) h1 h2)
  have HPE2 := Lib.hid (fun h1 h2 => HPE1.out (by trivial) h1 h2)
  have HRS2 := Lib.hid (fun h => HRS1.out (by trivial) h)
  clear HPB1 HPC1 HPD1 HPE1 HRS1
  go_wp2_with fail
  refine (HSE.out _).mono ?_
  rintro e11 w11 ⟨rfl, hb11⟩
  clear c0 c1 c2 c3 c4 c5 l2 d0 d1 d2 l3 g0 g1 l4
  have K2 := Lib.hid (K2.out.below hb11)
  have K3 := Lib.hid (K3.out.below hb11)
  have K4 := Lib.hid (K4.out.below hb11)
  have HB := bwt HB hb11
  obtain ⟨c0, c1, c2, c3, c4, c5, l2⟩ := blkc6 K2.out
  obtain ⟨d0, d1, d2, l3⟩ := blkc3 K3.out
  obtain ⟨g0, g1, l4⟩ := blkc2 K4.out
  have K7 := Lib.hid (K7.out.below hb11)
  have K9 := Lib.hid (K9.out.below hb11)
  have KN := Lib.hid (KN.out.below hb11)
  clear hb11
  clear HSE
  by_cases h3 : E3 = 0
  rotate_left
  ·obtain ⟨rfl, rfl, rfl⟩ := HPC2.out h3
   have x2 := bne_iff_ne.2 h3
   clear HPC2 HPD2 HPE2 HRS2 h3
   obtain ⟨s0, s1, l7⟩ := blkc2 K7.out
   obtain ⟨v0, v1, l9⟩ := blkc2 K9.out
   obtain ⟨n0, n1, lN⟩ := blkc2 KN.out
   go_wp2
   go_ret
   exact ⟨ret_bool (by simp), HB.out⟩
  subst h3
  have HPD3 := Lib.hid (fun h => HPD2.out (by trivial) h)
  have HPE3 := Lib.hid (fun h => HPE2.out (by trivial) h)
  have HRS3 := Lib.hid (HRS2.out (by trivial))
  clear HPC2 HPD2 HPE2 HRS2
  go_wp2_with fail
  refine (HRS3.out _).mono ?_
  rintro e12 w12 ⟨rfl, hb12⟩
  clear c0 c1 c2 c3 c4 c5 l2 d0 d1 d2 l3 g0 g1 l4
  have K2 := Lib.hid (K2.out.below hb12)
  have K3 := Lib.hid (K3.out.below hb12)
  have K4 := Lib.hid (K4.out.below hb12)
  have HB := bwt HB hb12
  obtain ⟨c0, c1, c2, c3, c4, c5, l2⟩ := blkc6 K2.out
  obtain ⟨d0, d1, d2, l3⟩ := blkc3 K3.out
  obtain ⟨g0, g1, l4⟩ := blkc2 K4.out
  have K7 := Lib.hid (K7.out.below hb12)
  have K9 := Lib.hid (K9.out.below hb12)
  have KN := Lib.hid (KN.out.below hb12)
  clear hb12
  clear HRS3
  cases SB
  ·obtain ⟨rfl, rfl, rfl⟩ := HPD3.out (by rfl)
   clear HPD3 HPE3
   obtain ⟨s0, s1, l7⟩ := blkc2 K7.out
   obtain ⟨v0, v1, l9⟩ := blkc2 K9.out
   obtain ⟨n0, n1, lN⟩ := blkc2 KN.out
   go_wp2
   go_ret
   exact ⟨ret_bool (by simp), HB.out.alloc HB.out.size _⟩
  ·obtain ⟨htx, rfl⟩ := HPE3.out (by rfl)
   injection htx with ht hx
   subst ht hx
   clear HPD3 HPE3
   obtain ⟨s0, s1, l7⟩ := blkc2 K7.out
   obtain ⟨v0, v1, l9⟩ := blkc2 K9.out
   obtain ⟨n0, n1, lN⟩ := blkc2 KN.out
   go_wp2
   go_ret
   exact ⟨ret_bool (by simp), HB.out.alloc HB.out.size _⟩
 ·clear HRW1
  go_wp2_with fail
  refine (HME1.out _).mono ?_
  rintro e10 w10 ⟨rfl, hb10⟩
  clear c0 c1 c2 c3 c4 c5 l2 d0 d1 d2 l3 g0 g1 l4
  have K2 := Lib.hid (K2.out.below hb10)
  have K3 := Lib.hid (K3.out.below hb10)
  have K4 := Lib.hid (K4.out.below hb10)
  have HB := bwt HB hb10
  obtain ⟨c0, c1, c2, c3, c4, c5, l2⟩ := blkc6 K2.out
  obtain ⟨d0, d1, d2, l3⟩ := blkc3 K3.out
  obtain ⟨g0, g1, l4⟩ := blkc2 K4.out
  have K7 := Lib.hid (K7.out.below hb10)
  have K9 := Lib.hid (K9.out.below hb10)
  have KN := Lib.hid (KN.out.below hb10)
  clear hb10
  clear HME1
  by_cases h2 : E2 = 0
  rotate_left
  ·obtain ⟨rfl, rfl, rfl⟩ := HPB1.out h2
   have x2 := bne_iff_ne.2 h2
   clear HPB1 HPC1 HPD1 HPE1 HRS1 h2
   obtain ⟨s0, s1, l7⟩ := blkc2 K7.out
   obtain ⟨v0, v1, l9⟩ := blkc2 K9.out
   obtain ⟨n0, n1, lN⟩ := blkc2 KN.out
   go_wp2
   go_ret
   exact ⟨ret_bool (by simp), HB.out⟩
  subst h2
  have HPC2 := Lib.hid (fun h => HPC1.out (by trivial) h)
  have HPD2 := Lib.hid (fun h1 h2 => HPD1.out (by trivial) h1 h2)
  have HPE2 := Lib.hid (fun h1 h2 => HPE1.out (by trivial) h1 h2)
  have HRS2 := Lib.hid (fun h => HRS1.out (by trivial) h)
  clear HPB1 HPC1 HPD1 HPE1 HRS1
  go_wp2_with fail
  refine (HSE.out _).mono ?_
  rintro e11 w11 ⟨rfl, hb11⟩
  clear c0 c1 c2 c3 c4 c5 l2 d0 d1 d2 l3 g0 g1 l4
  have K2 := Lib.hid (K2.out.below hb11)
  have K3 := Lib.hid (K3.out.below hb11)
  have K4 := Lib.hid (K4.out.below hb11)
  have HB := bwt HB hb11
  obtain ⟨c0, c1, c2, c3, c4, c5, l2⟩ := blkc6 K2.out
  obtain ⟨d0, d1, d2, l3⟩ := blkc3 K3.out
  obtain ⟨g0, g1, l4⟩ := blkc2 K4.out
  have K7 := Lib.hid (K7.out.below hb11)
  have K9 := Lib.hid (K9.out.below hb11)
  have KN := Lib.hid (KN.out.below hb11)
  clear hb11
  clear HSE
  by_cases h3 : E3 = 0
  rotate_left
  ·obtain ⟨rfl, rfl, rfl⟩ := HPC2.out h3
   have x2 := bne_iff_ne.2 h3
   clear HPC2 HPD2 HPE2 HRS2 h3
   obtain ⟨s0, s1, l7⟩ := blkc2 K7.out
   obtain ⟨v0, v1, l9⟩ := blkc2 K9.out
   obtain ⟨n0, n1, lN⟩ := blkc2 KN.out
   go_wp2
   go_ret
   exact ⟨ret_bool (by simp), HB.out⟩
  subst h3
  have HPD3 := Lib.hid (fun h => HPD2.out (by trivial) h)
  have HPE3 := Lib.hid (fun h => HPE2.out (by trivial) h)
  have HRS3 := Lib.hid (HRS2.out (by trivial))
  clear HPC2 HPD2 HPE2 HRS2
  go_wp2_with fail
  refine (HRS3.out _).mono ?_
  rintro e12 w12 ⟨rfl, hb12⟩
  clear c0 c1 c2 c3 c4 c5 l2 d0 d1 d2 l3 g0 g1 l4
  have K2 := Lib.hid (K2.out.below hb12)
  have K3 := Lib.hid (K3.out.below hb12)
  have K4 := Lib.hid (K4.out.below hb12)
  have HB := bwt HB hb12
  obtain ⟨c0, c1, c2, c3, c4, c5, l2⟩ := blkc6 K2.out
  obtain ⟨d0, d1, d2, l3⟩ := blkc3 K3.out
  obtain ⟨g0, g1, l4⟩ := blkc2 K4.out
  have K7 := Lib.hid (K7.out.below hb12)
  have K9 := Lib.hid (K9.out.below hb12)
  have KN := Lib.hid (KN.out.below hb12)
  clear hb12
  clear HRS3
  cases SB
  ·obtain ⟨rfl, rfl, rfl⟩ := HPD3.out (by rfl)
   clear HPD3 HPE3
   obtain ⟨s0, s1, l7⟩ := blkc2 K7.out
   obtain ⟨v0, v1, l9⟩ := blkc2 K9.out
   obtain ⟨n0, n1, lN⟩ := blkc2 KN.out
   go_wp2
   go_ret
   exact ⟨ret_bool (by simp), HB.out.alloc HB.out.size _⟩
  ·obtain ⟨htx, rfl⟩ := HPE3.out (by rfl)
   injection htx with ht hx
   subst ht hx
   clear HPD3 HPE3
   obtain ⟨s0, s1, l7⟩ := blkc2 K7.out
   obtain ⟨v0, v1, l9⟩ := blkc2 K9.out
   obtain ⟨n0, n1, lN⟩ := blkc2 KN.out
   go_wp2
   go_ret
   exact ⟨ret_bool (by simp), HB.out.alloc HB.out.size _⟩
/- What machines, limits, places, regulators and pairs that come in hold. Printed by gen_open6.py. -/
open Go.ChangeShapes Go.WideShapes Go.ChangeAt Go.RowKit
set_option maxRecDepth 100000
section
variable {H : Type} {enc : TypeId × Value → H} {W : World} {base : Nat} {spare : Nat → Bool} {held : Bool}
theorem sub_field {t : TypeId} {fs : Array Field} {fuel : Nat} {cs : List Value} {x : DataW H × List MemPlace} (ht : Tryz.prog.underlying t = some (.struct fs)) (h : DataW.trod enc Tryz.prog W base spare held fuel t cs = some x) (i : Nat) (f : Field) (hf : fs[i]? = some f) :
    ∃ m y, DataW.trod enc Tryz.prog W base spare held m f.type ((cs.drop f.offset).take (Tryz.prog.cellsOf f.type)) = some y := by
 obtain ⟨xs, n, _, _, _, hl, he⟩ := DataW.trod_struct ht h
 have hi : i < xs.length := by rw [hl]; exact (Array.getElem?_eq_some_iff.1 hf).1
 exact ⟨n, xs[i], (he i f hf).trans (List.getElem?_eq_getElem hi)⟩
theorem wf_bd9 {z : Int} (h : (Lit.int .i64 z).wf = true) : -9223372036854775808 ≤ z ∧ z ≤ 9223372036854775807 := by
 have h1 : IntKind.i64.min = -9223372036854775808 := by kernel_rfl
 have h2 : IntKind.i64.max = 9223372036854775807 := by kernel_rfl
 have h3 : (decide (IntKind.i64.min ≤ z) && decide (z ≤ IntKind.i64.max)) = true := h
 rw [h1, h2, Bool.and_eq_true, decide_eq_true_eq, decide_eq_true_eq] at h3
 exact h3
set_option maxRecDepth 100000 in
theorem leaf_intB {fuel : Nat} {c : Value} {x : DataW H × List MemPlace} (h : DataW.trod enc Tryz.prog W base spare held fuel 3 [c] = some x) : ∃ z, c = .int .i64 z ∧ -9223372036854775808 ≤ z ∧ z ≤ 9223372036854775807 := by
 obtain ⟨m, e, _, hw⟩ := DataW.trod_int Tryz.underlying3 h
 simp at e
 exact ⟨m, e, wf_bd9 hw⟩
def W64 (z : Int) : Prop := -9223372036854775808 ≤ z ∧ z ≤ 9223372036854775807
set_option maxRecDepth 100000 in
theorem leaf_rng {fuel : Nat} {c0 c1 : Value} {x : DataW H × List MemPlace} (h : DataW.trod enc Tryz.prog W base spare held fuel 23 [c0, c1] = some x) : ∃ (z0 : Int) (z1 : Int), [c0, c1] = [.int .i64 z0, .int .i64 z1] ∧ W64 z0 ∧ W64 z1 := by
 have n_int : Tryz.prog.cellsOf 3 = 1 := by kernel_rfl
 obtain ⟨m0, y0, e0⟩ := sub_field Tryz.underlying23 h 0 _ rfl
 have e0 : DataW.trod enc Tryz.prog W base spare held m0 3 (([c0, c1].drop 0).take (Tryz.prog.cellsOf 3)) = some y0 := e0
 rw [n_int] at e0
 obtain ⟨z0, r0, b0⟩ := leaf_intB (show DataW.trod enc Tryz.prog W base spare held m0 3 [c0] = _ from e0)
 obtain ⟨m1, y1, e1⟩ := sub_field Tryz.underlying23 h 1 _ rfl
 have e1 : DataW.trod enc Tryz.prog W base spare held m1 3 (([c0, c1].drop 1).take (Tryz.prog.cellsOf 3)) = some y1 := e1
 rw [n_int] at e1
 obtain ⟨z1, r1, b1⟩ := leaf_intB (show DataW.trod enc Tryz.prog W base spare held m1 3 [c1] = _ from e1)
 exact ⟨z0, z1, by rw [r0, r1], b0, b1⟩
set_option maxRecDepth 100000 in
theorem opened_rng {r : Reach} {b0 : Nat} {v : Value} {d : DataW H} {p : List MemPlace} (hv : Value.okWide Tryz.prog W r b0 23 v) (h : DataW.Trod enc Tryz.prog W base spare held 23 v d p) :
    ∃ (z0 : Int) (z1 : Int), v = .agg #[.int .i64 z0, .int .i64 z1] ∧ W64 z0 ∧ W64 z1 := by
 have hk : Tryz.prog.cellsOf 23 = 2 := by kernel_rfl
 obtain ⟨cs, rfl, hsz⟩ := okWide_struct Tryz.underlying23 hv
 obtain ⟨c0, c1, rfl⟩ : ∃ c0 c1, cs = #[c0, c1] := by
  have hs := hsz.trans hk
  obtain ⟨l⟩ := cs
  match l, hs with
  | [c0, c1], _ => exact ⟨c0, c1, rfl⟩
 obtain ⟨fuel, hf⟩ := h
 obtain ⟨z0, z1, q, bb⟩ := leaf_rng (show DataW.trod enc Tryz.prog W base spare held fuel 23 [c0, c1] = _ from hf)
 simp only [List.cons.injEq, and_true] at q
 obtain ⟨rfl, rfl⟩ := q
 exact ⟨z0, z1, rfl, bb⟩
set_option maxRecDepth 100000 in
theorem leaf_mom {fuel : Nat} {c0 c1 : Value} {x : DataW H × List MemPlace} (h : DataW.trod enc Tryz.prog W base spare held fuel 27 [c0, c1] = some x) : ∃ (z0 : Int) (z1 : Int), [c0, c1] = [.int .i64 z0, .int .i64 z1] ∧ W64 z0 ∧ W64 z1 := by
 have n_int : Tryz.prog.cellsOf 3 = 1 := by kernel_rfl
 obtain ⟨m0, y0, e0⟩ := sub_field Tryz.underlying27 h 0 _ rfl
 have e0 : DataW.trod enc Tryz.prog W base spare held m0 3 (([c0, c1].drop 0).take (Tryz.prog.cellsOf 3)) = some y0 := e0
 rw [n_int] at e0
 obtain ⟨z0, r0, b0⟩ := leaf_intB (show DataW.trod enc Tryz.prog W base spare held m0 3 [c0] = _ from e0)
 obtain ⟨m1, y1, e1⟩ := sub_field Tryz.underlying27 h 1 _ rfl
 have e1 : DataW.trod enc Tryz.prog W base spare held m1 3 (([c0, c1].drop 1).take (Tryz.prog.cellsOf 3)) = some y1 := e1
 rw [n_int] at e1
 obtain ⟨z1, r1, b1⟩ := leaf_intB (show DataW.trod enc Tryz.prog W base spare held m1 3 [c1] = _ from e1)
 exact ⟨z0, z1, by rw [r0, r1], b0, b1⟩
set_option maxRecDepth 100000 in
theorem leaf_scn {fuel : Nat} {c0 c1 c2 : Value} {x : DataW H × List MemPlace} (h : DataW.trod enc Tryz.prog W base spare held fuel 64 [c0, c1, c2] = some x) : ∃ (z0 : Int) (z1 : Int) (z2 : Int), [c0, c1, c2] = [.int .i64 z0, .int .i64 z1, .int .i64 z2] ∧ W64 z0 ∧ W64 z1 ∧ W64 z2 := by
 have n_int : Tryz.prog.cellsOf 3 = 1 := by kernel_rfl
 have n_mom : Tryz.prog.cellsOf 27 = 2 := by kernel_rfl
 obtain ⟨m0, y0, e0⟩ := sub_field Tryz.underlying64 h 0 _ rfl
 have e0 : DataW.trod enc Tryz.prog W base spare held m0 27 (([c0, c1, c2].drop 0).take (Tryz.prog.cellsOf 27)) = some y0 := e0
 rw [n_mom] at e0
 obtain ⟨z0, z1, q0, b0, b1⟩ := leaf_mom (show DataW.trod enc Tryz.prog W base spare held m0 27 [c0, c1] = _ from e0)
 simp only [List.cons.injEq, and_true] at q0
 obtain ⟨r0, r1⟩ := q0
 obtain ⟨m1, y1, e1⟩ := sub_field Tryz.underlying64 h 1 _ rfl
 have e1 : DataW.trod enc Tryz.prog W base spare held m1 3 (([c0, c1, c2].drop 2).take (Tryz.prog.cellsOf 3)) = some y1 := e1
 rw [n_int] at e1
 obtain ⟨z2, r2, b2⟩ := leaf_intB (show DataW.trod enc Tryz.prog W base spare held m1 3 [c2] = _ from e1)
 exact ⟨z0, z1, z2, by rw [r0, r1, r2], b0, b1, b2⟩
set_option maxRecDepth 100000 in
theorem opened_scn {r : Reach} {b0 : Nat} {v : Value} {d : DataW H} {p : List MemPlace} (hv : Value.okWide Tryz.prog W r b0 64 v) (h : DataW.Trod enc Tryz.prog W base spare held 64 v d p) :
    ∃ (z0 : Int) (z1 : Int) (z2 : Int), v = .agg #[.int .i64 z0, .int .i64 z1, .int .i64 z2] ∧ W64 z0 ∧ W64 z1 ∧ W64 z2 := by
 have hk : Tryz.prog.cellsOf 64 = 3 := by kernel_rfl
 obtain ⟨cs, rfl, hsz⟩ := okWide_struct Tryz.underlying64 hv
 obtain ⟨c0, c1, c2, rfl⟩ : ∃ c0 c1 c2, cs = #[c0, c1, c2] := by
  have hs := hsz.trans hk
  obtain ⟨l⟩ := cs
  match l, hs with
  | [c0, c1, c2], _ => exact ⟨c0, c1, c2, rfl⟩
 obtain ⟨fuel, hf⟩ := h
 obtain ⟨z0, z1, z2, q, bb⟩ := leaf_scn (show DataW.trod enc Tryz.prog W base spare held fuel 64 [c0, c1, c2] = _ from hf)
 simp only [List.cons.injEq, and_true] at q
 obtain ⟨rfl, rfl, rfl⟩ := q
 exact ⟨z0, z1, z2, rfl, bb⟩
set_option maxRecDepth 100000 in
theorem leaf_reg {fuel : Nat} {c0 c1 c2 c3 c4 c5 : Value} {x : DataW H × List MemPlace} (h : DataW.trod enc Tryz.prog W base spare held fuel 25 [c0, c1, c2, c3, c4, c5] = some x) : ∃ (z0 : Int) (z1 : Int) (z2 : Int) (z3 : Int) (z4 : Int) (z5 : Int), [c0, c1, c2, c3, c4, c5] = [.int .i64 z0, .int .i64 z1, .int .i64 z2, .int .i64 z3, .int .i64 z4, .int .i64 z5] ∧ W64 z0 ∧ W64 z1 ∧ W64 z2 ∧ W64 z3 ∧ W64 z4 ∧ W64 z5 := by
 have n_int : Tryz.prog.cellsOf 3 = 1 := by kernel_rfl
 have n_rng : Tryz.prog.cellsOf 23 = 2 := by kernel_rfl
 obtain ⟨m0, y0, e0⟩ := sub_field Tryz.underlying25 h 0 _ rfl
 have e0 : DataW.trod enc Tryz.prog W base spare held m0 3 (([c0, c1, c2, c3, c4, c5].drop 0).take (Tryz.prog.cellsOf 3)) = some y0 := e0
 rw [n_int] at e0
 obtain ⟨z0, r0, b0⟩ := leaf_intB (show DataW.trod enc Tryz.prog W base spare held m0 3 [c0] = _ from e0)
 obtain ⟨m1, y1, e1⟩ := sub_field Tryz.underlying25 h 1 _ rfl
 have e1 : DataW.trod enc Tryz.prog W base spare held m1 3 (([c0, c1, c2, c3, c4, c5].drop 1).take (Tryz.prog.cellsOf 3)) = some y1 := e1
 rw [n_int] at e1
 obtain ⟨z1, r1, b1⟩ := leaf_intB (show DataW.trod enc Tryz.prog W base spare held m1 3 [c1] = _ from e1)
 obtain ⟨m2, y2, e2⟩ := sub_field Tryz.underlying25 h 2 _ rfl
 have e2 : DataW.trod enc Tryz.prog W base spare held m2 3 (([c0, c1, c2, c3, c4, c5].drop 2).take (Tryz.prog.cellsOf 3)) = some y2 := e2
 rw [n_int] at e2
 obtain ⟨z2, r2, b2⟩ := leaf_intB (show DataW.trod enc Tryz.prog W base spare held m2 3 [c2] = _ from e2)
 obtain ⟨m3, y3, e3⟩ := sub_field Tryz.underlying25 h 3 _ rfl
 have e3 : DataW.trod enc Tryz.prog W base spare held m3 3 (([c0, c1, c2, c3, c4, c5].drop 3).take (Tryz.prog.cellsOf 3)) = some y3 := e3
 rw [n_int] at e3
 obtain ⟨z3, r3, b3⟩ := leaf_intB (show DataW.trod enc Tryz.prog W base spare held m3 3 [c3] = _ from e3)
 obtain ⟨m4, y4, e4⟩ := sub_field Tryz.underlying25 h 4 _ rfl
 have e4 : DataW.trod enc Tryz.prog W base spare held m4 23 (([c0, c1, c2, c3, c4, c5].drop 4).take (Tryz.prog.cellsOf 23)) = some y4 := e4
 rw [n_rng] at e4
 obtain ⟨z4, z5, q4, b4, b5⟩ := leaf_rng (show DataW.trod enc Tryz.prog W base spare held m4 23 [c4, c5] = _ from e4)
 simp only [List.cons.injEq, and_true] at q4
 obtain ⟨r4, r5⟩ := q4
 exact ⟨z0, z1, z2, z3, z4, z5, by rw [r0, r1, r2, r3, r4, r5], b0, b1, b2, b3, b4, b5⟩
set_option maxRecDepth 100000 in
theorem opened_reg {r : Reach} {b0 : Nat} {v : Value} {d : DataW H} {p : List MemPlace} (hv : Value.okWide Tryz.prog W r b0 25 v) (h : DataW.Trod enc Tryz.prog W base spare held 25 v d p) :
    ∃ (z0 : Int) (z1 : Int) (z2 : Int) (z3 : Int) (z4 : Int) (z5 : Int), v = .agg #[.int .i64 z0, .int .i64 z1, .int .i64 z2, .int .i64 z3, .int .i64 z4, .int .i64 z5] ∧ W64 z0 ∧ W64 z1 ∧ W64 z2 ∧ W64 z3 ∧ W64 z4 ∧ W64 z5 := by
 have hk : Tryz.prog.cellsOf 25 = 6 := by kernel_rfl
 obtain ⟨cs, rfl, hsz⟩ := okWide_struct Tryz.underlying25 hv
 obtain ⟨c0, c1, c2, c3, c4, c5, rfl⟩ : ∃ c0 c1 c2 c3 c4 c5, cs = #[c0, c1, c2, c3, c4, c5] := by
  have hs := hsz.trans hk
  obtain ⟨l⟩ := cs
  match l, hs with
  | [c0, c1, c2, c3, c4, c5], _ => exact ⟨c0, c1, c2, c3, c4, c5, rfl⟩
 obtain ⟨fuel, hf⟩ := h
 obtain ⟨z0, z1, z2, z3, z4, z5, q, bb⟩ := leaf_reg (show DataW.trod enc Tryz.prog W base spare held fuel 25 [c0, c1, c2, c3, c4, c5] = _ from hf)
 simp only [List.cons.injEq, and_true] at q
 obtain ⟨rfl, rfl, rfl, rfl, rfl, rfl⟩ := q
 exact ⟨z0, z1, z2, z3, z4, z5, rfl, bb⟩
end
end Go.Proofs.YtppkckbnjnenfaaGreat
