import Derived.Test.YtdjinmieogpgcaaGreatMTAwk0
/- After how many ticks a pair rests: the program's exported function; the chapter is awake. (Printed by gen_setp.py.) -/
namespace Go.Proofs.YtdjinmieogpgcaaGreat
open Go.RowKit Go.Shelf
set_option linter.unusedVariables false
set_option linter.unusedSimpArgs false
def PrO (p : Pai) (d n e : Int) : Prop := (prdE p d ≠ 0 ∧ n = 0 ∧ e = prdE p d) ∨ (prdE p d = 0 ∧ ∃ T fr, Rep (tickP d) p T fr ∧ ((lastM (tickP d) (mvP d) p T ≤ fr ∧ n = ((lastM (tickP d) (mvP d) p T : Nat) : Int) ∧ e = 0) ∨ (¬ lastM (tickP d) (mvP d) p T ≤ fr ∧ n = 0 ∧ e = 21)))
theorem prdE_zero {p : Pai} {d : Int} (h : prdE p d = 0) : PaiV p ∧ -10000 ≤ d ∧ d ≤ 10000 := by
 unfold prdE at h
 rw [firstErr_zero', firstErr_zero', firstErr_zero', firstErr_zero', firstErr_zero', regE_zero, regE_zero, momE_zero, momE_zero, swE_zero] at h
 exact ⟨⟨h.1, h.2.1, h.2.2.1, h.2.2.2.1⟩, h.2.2.2.2.1⟩
set_option maxHeartbeats 2000000 in
set_option maxRecDepth 100000 in
theorem pairRests_any (p : Pai) (d : Int) (w : World) :
    Calls Tryz.prog 8 #[.agg #[.int .i64 p.a.tgt, .int .i64 p.a.band, .int .i64 p.a.dly, .int .i64 p.a.stp, .int .i64 p.a.lo, .int .i64 p.a.hi, .int .i64 p.b.tgt, .int .i64 p.b.band, .int .i64 p.b.dly, .int .i64 p.b.stp, .int .i64 p.b.lo, .int .i64 p.b.hi, .int .i64 p.ma.tap, .int .i64 p.ma.wait, .int .i64 p.mb.tap, .int .i64 p.mb.wait], .int .i64 d] w fun e' w' => Below w.heap.size w w' ∧ ∃ n e, e' = .returned (.tuple #[.int .i64 n, .int .i64 e]) ∧ PrO p d n e := by
 have HE := Lib.hid (fun (W : World) => pairErr_any p d W)
 have HS := Lib.hid (fun (h : prdE p d = 0) (XD : Nat) (W : World) (h2 : BlkR W XD (.cells #[.int .i64 d] 3)) => restP_any p d XD W (prdE_zero h).1 (prdE_zero h).2 h2)
 have HO1 := Lib.hid (fun (h : prdE p d ≠ 0) => show PrO p d 0 (prdE p d) from .inl ⟨h, rfl, rfl⟩)
 have HO2 := Lib.hid (fun (h : prdE p d = 0) (T fr : Nat) (hr : Rep (tickP d) p T fr) (hl : lastM (tickP d) (mvP d) p T ≤ fr) => show PrO p d ((lastM (tickP d) (mvP d) p T : Nat) : Int) 0 from .inr ⟨h, T, fr, hr, .inl ⟨hl, rfl, rfl⟩⟩)
 have HO3 := Lib.hid (fun (h : prdE p d = 0) (T fr : Nat) (hr : Rep (tickP d) p T fr) (hl : ¬ lastM (tickP d) (mvP d) p T ≤ fr) => show PrO p d 0 21 from .inr ⟨h, T, fr, hr, .inr ⟨hl, rfl, rfl⟩⟩)
 generalize PrO p d = PO at *
 generalize itr (tickP d) p = ST at *
 generalize Rep (tickP d) p = RP at *
 generalize lastM (tickP d) (mvP d) p = LA at *
 generalize prdE p d = E at *
 obtain ⟨⟨p0, p1, p2, p3, p4, p5⟩, ⟨p6, p7, p8, p9, p10, p11⟩, ⟨p12, p13⟩, ⟨p14, p15⟩⟩ := p
 simp only at HE HS ⊢
 go_enter Tryz.func8, Tryz.ntmps8
 go_wp2_with fail
 obtain ⟨w2, hW2⟩ : ∃ w2, w2 = (w.alloc (Obj.cells #[.int .i64 p0, .int .i64 p1, .int .i64 p2, .int .i64 p3, .int .i64 p4, .int .i64 p5, .int .i64 p6, .int .i64 p7, .int .i64 p8, .int .i64 p9, .int .i64 p10, .int .i64 p11, .int .i64 p12, .int .i64 p13, .int .i64 p14, .int .i64 p15] 29)).alloc (Obj.cells #[.int .i64 d] 3) := ⟨_, rfl⟩
 rw [← hW2]
 have hb2 : Below w.heap.size w w2 := by rw [hW2]; (first|exact bwg|go_size)
 have k2 : BlkR w2 w.heap.size (.cells #[.int .i64 p0, .int .i64 p1, .int .i64 p2, .int .i64 p3, .int .i64 p4, .int .i64 p5, .int .i64 p6, .int .i64 p7, .int .i64 p8, .int .i64 p9, .int .i64 p10, .int .i64 p11, .int .i64 p12, .int .i64 p13, .int .i64 p14, .int .i64 p15] 29) := by
  show w2.heap[w.heap.size]? = _
  rw [hW2, Below.heap_alloc _ _ _ (by simp)]; exact heap_alloc_new _ _
 have k3 : BlkR w2 (w.heap.size + 1) (.cells #[.int .i64 d] 3) := by
  show w2.heap[w.heap.size + 1]? = _
  rw [hW2]
  have := heap_alloc_new (w.alloc (Obj.cells #[.int .i64 p0, .int .i64 p1, .int .i64 p2, .int .i64 p3, .int .i64 p4, .int .i64 p5, .int .i64 p6, .int .i64 p7, .int .i64 p8, .int .i64 p9, .int .i64 p10, .int .i64 p11, .int .i64 p12, .int .i64 p13, .int .i64 p14, .int .i64 p15] 29)) (Obj.cells #[.int .i64 d] 3)
  rwa [World.size_alloc] at this
 obtain ⟨X2, hX2⟩ : ∃ X, X = w.heap.size := ⟨_, rfl⟩
 obtain ⟨X3, hX3⟩ : ∃ X, X = w.heap.size + 1 := ⟨_, rfl⟩
 rw [← hX3] at k3
 rw [← hX2] at k2
 simp only [← hX3]
 simp only [← hX2]
 clear hW2 hX2 hX3
 refine (HE.out w2).mono ?_
 rintro e5 w5 ⟨rfl, hb5⟩
 have K2 := Lib.hid (k2.below hb5)
 have K3 := Lib.hid (k3.below hb5)
 have HB := Lib.hid (hb2.trans (hb5.mono hb2.size))
 clear k2 k3 hb2 hb5 HE
 by_cases h0 : E = 0
 ·subst h0
  have HSW := Lib.hid (HS.out rfl X3 w5 K3.out)
  have c_0 := blk_cell K2.out (i := 0) rfl
  have c_1 := blk_cell K2.out (i := 1) rfl
  have c_2 := blk_cell K2.out (i := 2) rfl
  have c_3 := blk_cell K2.out (i := 3) rfl
  have c_4 := blk_cell K2.out (i := 4) rfl
  have c_5 := blk_cell K2.out (i := 5) rfl
  have c_6 := blk_cell K2.out (i := 6) rfl
  have c_7 := blk_cell K2.out (i := 7) rfl
  have c_8 := blk_cell K2.out (i := 8) rfl
  have c_9 := blk_cell K2.out (i := 9) rfl
  have c_10 := blk_cell K2.out (i := 10) rfl
  have c_11 := blk_cell K2.out (i := 11) rfl
  have c_12 := blk_cell K2.out (i := 12) rfl
  have c_13 := blk_cell K2.out (i := 13) rfl
  have c_14 := blk_cell K2.out (i := 14) rfl
  have c_15 := blk_cell K2.out (i := 15) rfl
  have l2 := K2.out.lt
  clear HS
  go_wp2_with fail
  refine HSW.out.mono ?_
  rintro e7 w7 ⟨hb7, T, fr, hrp, rfl⟩
  have HRP := Lib.hid hrp
  have HB := bwt HB hb7
  clear c_0 c_1 c_2 c_3 c_4 c_5 c_6 c_7 c_8 c_9 c_10 c_11 c_12 c_13 c_14 c_15 l2 hb7 hrp HSW
  generalize ST T = S at *
  obtain ⟨⟨s0, s1, s2, s3, s4, s5⟩, ⟨s6, s7, s8, s9, s10, s11⟩, ⟨s12, s13⟩, ⟨s14, s15⟩⟩ := S
  by_cases hl : LA T ≤ fr
  ·have hl1 : decide (LA T ≤ fr) = true := decide_eq_true hl
   have HPO := Lib.hid (HO2.out (by trivial) T fr HRP.out hl)
   rw [hl1]
   clear hl hl1
   go_wp2
   go_ret2
   exact ⟨by have := HB.out; exact this.alloc this.size _, _, _, rfl, HPO.out⟩
  ·have hl1 : decide (LA T ≤ fr) = false := decide_eq_false hl
   have HPO := Lib.hid (HO3.out (by trivial) T fr HRP.out hl)
   rw [hl1]
   clear hl hl1
   go_wp2
   go_ret2
   exact ⟨by have := HB.out; exact this.alloc this.size _, _, _, rfl, HPO.out⟩
 ·have e1 := bne_iff_ne.2 h0
  have HPO := Lib.hid (HO1.out h0)
  clear h0 HS
  go_wp2
  go_ret2
  exact ⟨HB.out, _, _, rfl, HPO.out⟩
theorem awake_any (w : World) : Calls Tryz.prog 6 #[] w fun e' w' => e' = .returned (.bool true) ∧ Below w.heap.size w w' :=
 awake_of w fun W => (pairRests_any pai0 90 W).mono fun e w' h => by
  obtain ⟨hb, n, e', rfl, h⟩ := h
  refine ⟨?_, hb⟩
  have hz : prdE pai0 90 = 0 := by decide
  rcases h with ⟨h, _⟩ | ⟨_, T, fr, hr, h⟩
  ·exact absurd hz h
  ·obtain ⟨rfl, rfl⟩ := hr.uniq repP0
   rw [setP0] at h
   rcases h with ⟨_, rfl, rfl⟩ | ⟨h, _⟩
   ·rfl
   ·simp at h
end Go.Proofs.YtdjinmieogpgcaaGreat
