import Derived.Test.YtdjinmieogpgcaaGreatWide11
/- Wide numbers: WideFloor. -/
namespace Go.Proofs.YtdjinmieogpgcaaGreat
open Go.RowKit
set_option linter.unusedVariables false
theorem WideR.here {p : Nat → Prop} {w : World} {v : Value} {z : Int} (h : WideR p w v z) : WideR (fun b => p b ∧ b < w.heap.size) w v z := by
 obtain ⟨a, n, c, l, h1, h2, h3, h4, h5, h6, h7⟩ := h
 refine ⟨a, n, c, l, h1, h2, h3, h4, h5, h6, fun b o h0 ha => ⟨h7 b o h0 ha, ?_⟩⟩
 obtain ⟨b', o', h8, h9, _⟩ := h2.addr h0
 rw [h8] at ha
 simp only [Option.some.injEq, Addr.mk.injEq] at ha
 omega
set_option maxHeartbeats 1000000 in
set_option maxRecDepth 100000 in
theorem wideFloor_main (p : Nat → Prop) (va vb : Value) (x y : Int) (K M : Nat) (w : World) (h : WideR p w va x) (h' : WideR p w vb y) (hx0 : x ≠ 0) (hy0 : 0 < y) (hx : (x.natAbs : Int) < pw K) (hy : (y.natAbs : Int) < pw M) (hK : K ≤ 900000) (hM : M ≤ 900000) :
    Calls Tryz.prog 164 #[va, vb] w fun e' w' => ∃ v', e' = .returned v' ∧ Below w.heap.size w w' ∧ WideR (fun b => w.heap.size ≤ b) w' v' (x / y) := by
 obtain ⟨a1, n1, c1, l1, rfl, h2, h3, h4, h5, h6, h7⟩ := h
 obtain ⟨a2, n2, c2, l2, rfl, k2, k3, k4, k5, k6, k7⟩ := h'
 have hn1 : n1 ≤ K := by have := h4.len h3 (K := K) (by rw [h5]; exact hx); rw [h2.len] at this; exact this
 have hn2 : n2 ≤ M := by have := k4.len k3 (K := M) (by rw [k5]; exact hy); rw [k2.len] at this; exact this
 have hs1 := sign_bd x
 have hsy : y.sign = 1 := Int.sign_eq_one_of_pos hy0
 have HYM := Lib.hid hy
 have HXK := Lib.hid hx
 have HW1 := Lib.hid (fun (w' : World) (hl : IntsR w' a2 n2 l2) => wideOf_any (fun _ => True) l2 a2 n2 c2 1 y w' hl k3 k6 k5 (fun _ => hsy.symm) (fun _ _ _ _ => trivial))
 have H1 := Lib.hid h2
 have H2 := Lib.hid k2
 have D1 := Lib.hid h3
 have V1 := Lib.hid h5
 have HSX := Lib.hid (rfl : x.sign = x.sign)
 have HX0 := Lib.hid hx0
 have hs0 : (x.sign == 0) = false := by simp [Int.sign_eq_zero_iff_zero, hx0]
 rw [hsy]
 have hmk : ∀ w' : World, (Instr.makeSlice 48 (.int .i64 (n1 : Int)) (.int .i64 (n1 : Int))).run Tryz.prog w' = .ok (.slice (some ⟨w'.heap.size, 0, none⟩) n1 n1) (w'.alloc (.cells (madeCells #[Value.int .i64 0] n1) 3)) := by
  intro w'
  exact makeInts6 Tryz.prog w' 48 3 Tryz.underlying48 infoInt n1 (by omega)
 have hds : (madeCells #[Value.int .i64 0] n1).toList = icells (List.replicate n1 0) := by rw [toList_madeCells_one]; simp [icells]
 have hdz : (madeCells #[Value.int .i64 0] n1).size = n1 := by simp [size_madeCells]
 generalize madeCells #[Value.int .i64 0] n1 = ds at hmk hds hdz
 have HDS := Lib.hid (And.intro hds hdz)
 clear hds hdz h2 h3 h4 h5 h6 h7 k2 k3 k4 k5 k6 k7 hx hy hsy hx0
 obtain ⟨s, hs⟩ : ∃ s, s = x.sign := ⟨_, rfl⟩
 have HS := Lib.hid hs
 rw [← hs] at hs0 hs1 ⊢
 clear hs
 go_enter Tryz.func164, Tryz.ntmps164
 go_wp2
 generalize hW : World.alloc _ _ = w6
 have hb6 : Below w.heap.size w w6 := by rw [← hW]; (first|exact bwg|go_size)
 have q0 : w6.cell? ⟨w.heap.size, 0, none⟩ = some (.int .i64 s) := by { rw [← hW]; clear hW; go_simp }
 have q1 : w6.cell? ⟨w.heap.size, 1, none⟩ = some (.slice a1 n1 c1) := by { rw [← hW]; clear hW; go_simp }
 have r0 : w6.cell? ⟨w.heap.size + 1, 0, none⟩ = some (.int .i64 1) := by { rw [← hW]; clear hW; go_simp }
 have r1 : w6.cell? ⟨w.heap.size + 1, 1, none⟩ = some (.slice a2 n2 c2) := by { rw [← hW]; clear hW; go_simp }
 have z0 : w6.cell? ⟨w.heap.size + 1 + 1, 0, none⟩ = some (.int .i64 0) := by { rw [← hW]; clear hW; go_simp }
 have z1 : w6.cell? ⟨w.heap.size + 1 + 1, 1, none⟩ = some (.slice none 0 0) := by { rw [← hW]; clear hW; go_simp }
 have f0 : w6.frozen? ⟨w.heap.size + 1 + 1, 0, none⟩ = false := by { rw [← hW]; clear hW; go_simp }
 have f1 : w6.frozen? ⟨w.heap.size + 1 + 1, 1, none⟩ = false := by { rw [← hW]; clear hW; go_simp }
 have hown : w6.ownsRow (w.heap.size + 3) 3 1 (.slice (some ⟨w.heap.size + 3, 0, none⟩) n1 n1) n1 (icells (List.replicate n1 0)) := by
  rw [← hW, ← HDS.out.1]
  exact World.ownsRow.alloc (owns_lit (by simp) (Nat.le_refl _) (by omega) (by rw [HDS.out.2]; simp)) _
 have hz6 : w.heap.size + 3 < w6.heap.size := by rw [← hW]; simp
 have HB6 := Lib.hid hb6
 have HOW := Lib.hid hown
 clear hW hb6 hown
 go_loopw [6, 7] (fun v i wr => ∃ (k : Nat) (la : Option Addr) (ln lc : Nat) (L Q : List Int), i = .int .i64 ((k : Int) - 1) ∧ k ≤ n1 ∧ v = .slice la ln lc ∧ Hid (IntsR wr la ln L ∧ DOk L ∧ Top L ∧ ln ≤ lc ∧ (∀ b o, 0 < ln → la = some ⟨b, o, none⟩ → w.heap.size + 4 ≤ b) ∧ dval L < y) ∧ ln ≤ M
  ∧ Hid (wr.ownsRow (w.heap.size + 3) 3 1 (.slice (some ⟨w.heap.size + 3, 0, none⟩) n1 n1) n1 (icells Q)) ∧ Hid (Q.length = n1 ∧ DOk Q ∧ (∀ j, j < k → Q.getD j 0 = 0) ∧ dval (l1.drop k) = dval (Q.drop k) * y + dval L) ∧ Hid (Below (w.heap.size + 3) w6 wr)) (fun _ i _ => (intOf i + 1).toNat)
 case atStart =>
  refine ⟨n1, _, 0, _, [], _, by go_num, Nat.le_refl _, rfl, Lib.hid ⟨IntsR.nil _ _, DOk.nil, Top.nil, Nat.zero_le _, fun _ _ h0 => absurd h0 (by omega), by simp [dval]; exact hy0⟩, Nat.zero_le _, HOW, Lib.hid ⟨by simp, DOk.zeros _, fun j _ => getD_zeros _ _, ?_⟩, Lib.hid (Below.refl _ _)⟩
  rw [List.drop_eq_nil_of_le (by rw [H1.out.len]; omega), List.drop_eq_nil_of_le (by simp)]
  simp [dval]
 case round =>
  obtain ⟨k, la, ln, lc, L, Q, rfl, hk, rfl, hL, hln, hO, hF, hB⟩ := hrel
  obtain ⟨w7, rfl⟩ : ∃ w', w' = wr := ⟨wr, rfl⟩
  have hb7 := hB.out
  have hz7 := hb7.size
  have q0a : w7.cell? ⟨w.heap.size, 0, none⟩ = some (.int .i64 (s)) := bwc hb7; have q1a : w7.cell? ⟨w.heap.size, 1, none⟩ = some (.slice (a1) n1 c1) := bwc hb7; have r0a : w7.cell? ⟨w.heap.size + 1, 0, none⟩ = some (.int .i64 1) := bwc hb7; have r1a : w7.cell? ⟨w.heap.size + 1, 1, none⟩ = some (.slice (a2) n2 c2) := bwc hb7; have z0a : w7.cell? ⟨w.heap.size + 1 + 1, 0, none⟩ = some (.int .i64 0) := bwc hb7; have z1a : w7.cell? ⟨w.heap.size + 1 + 1, 1, none⟩ = some (.slice none 0 0) := bwc hb7; have f0a : w7.frozen? ⟨w.heap.size + 1 + 1, 0, none⟩ = false := bwf hb7; have f1a : w7.frozen? ⟨w.heap.size + 1 + 1, 1, none⟩ = false := bwf hb7; have l0a : w.heap.size + 1 + 1 < w7.heap.size := by { omega }; have m0a : w.heap.size < w7.heap.size := by { omega }; have m1a : w.heap.size + 1 < w7.heap.size := by { omega }
  have HB7 := Lib.hid hB.out
  have HO7 := Lib.hid hO.out
  have HF7 := Lib.hid hF.out
  have HL7 := Lib.hid hL.out
  clear q0 q1 r0 r1 z0 z1 f0 f1 hb7 hO hF hB hL
  rcases k with _ | k
  ·have hQ := HF7.out.2.2.2
   rw [List.drop_zero, List.drop_zero, V1.out] at hQ
   have hq0 := (dval_bd HF7.out.2.1).1
   have hL0 := (dval_bd HL7.out.2.1).1
   have hLy := HL7.out.2.2.2.2.2
   have hLn := (HL7.out.2.2.1.zero HL7.out.2.1)
   rw [HL7.out.1.len] at hLn
   have hqx : dval Q ≤ (x.natAbs : Int) := by
    have : dval Q * 1 ≤ dval Q * y := Int.mul_le_mul_of_nonneg_left (by omega) hq0
    omega
   obtain ⟨zq, hzq⟩ : ∃ z, z = s * dval Q := ⟨_, rfl⟩
   have hss : s = 1 ∧ 0 < x ∨ s = -1 ∧ x < 0 := by
    rcases Int.lt_trichotomy x 0 with h | h | h
    ·exact .inr ⟨by rw [HS.out, Int.sign_eq_neg_one_of_neg h], h⟩
    ·exact absurd h HX0.out
    ·exact .inl ⟨by rw [HS.out, Int.sign_eq_one_of_pos h], h⟩
   have hzn : (zq.natAbs : Int) = dval Q := by
    rcases hss with ⟨h, _⟩ | ⟨h, _⟩ <;> rw [hzq, h] <;> omega
   have hl3 := (HO7.out.lt _ rfl).2
   have HW := Lib.hid (wideOf_any (fun b => w.heap.size + 3 ≤ b ∧ b < w7.heap.size) Q (some ⟨w.heap.size + 3, 0, none⟩) n1 n1 s zq w7 (SlR.of_owns HO7.out) HF7.out.2.1 (Nat.le_refl _) hzn.symm (fun h0 => by
    rcases hss with ⟨h, _⟩ | ⟨h, _⟩
    ·rw [h]; rw [h, Int.one_mul] at hzq; rw [Int.sign_eq_one_of_pos (by omega)]
    ·rw [h]; rw [h] at hzq; rw [Int.sign_eq_neg_one_of_neg (by omega)]) (fun b o h0 ha => by
     simp only [Option.some.injEq, Addr.mk.injEq] at ha
     omega))
   have HQ := Lib.hid hQ
   have HZQ := Lib.hid hzq
   have HZN := Lib.hid hzn
   have HQX := Lib.hid hqx
   have HLN := Lib.hid hLn
   have HLY := Lib.hid (And.intro hL0 hLy)
   have HBA := Lib.hid (HB6.out.trans (HB7.out.mono (by omega)))
   clear hQ hq0 hL0 hLy hLn hqx hzq hzn hl3
   go_wp2_with fail
   refine HW.out.mono ?_
   rintro e9 w9 ⟨v9, rfl, hb9, hW9⟩
   have HW9 := Lib.hid hW9
   obtain ⟨a9, n9, c9, l9, rfl, _⟩ := hW9
   have hz9 := hb9.size
   have q0b : w9.cell? ⟨w.heap.size, 0, none⟩ = some (.int .i64 (s)) := bwc hb9; have q1b : w9.cell? ⟨w.heap.size, 1, none⟩ = some (.slice (a1) n1 c1) := bwc hb9; have r0b : w9.cell? ⟨w.heap.size + 1, 0, none⟩ = some (.int .i64 1) := bwc hb9; have r1b : w9.cell? ⟨w.heap.size + 1, 1, none⟩ = some (.slice (a2) n2 c2) := bwc hb9; have z0b : w9.cell? ⟨w.heap.size + 1 + 1, 0, none⟩ = some (.int .i64 0) := bwc hb9; have z1b : w9.cell? ⟨w.heap.size + 1 + 1, 1, none⟩ = some (.slice none 0 0) := bwc hb9; have f0b : w9.frozen? ⟨w.heap.size + 1 + 1, 0, none⟩ = false := bwf hb9; have f1b : w9.frozen? ⟨w.heap.size + 1 + 1, 1, none⟩ = false := bwf hb9; have l0b : w.heap.size + 1 + 1 < w9.heap.size := by { omega }; have m0b : w.heap.size < w9.heap.size := by { omega }; have m1b : w.heap.size + 1 < w9.heap.size := by { omega }
   have HB9 := Lib.hid (HBA.out.trans (hb9.mono (by omega)))
   clear hb9 HW q0a q1a r0a r1a z0a z1a f0a f1a l0a m0a m1a
   obtain ⟨sg, hsg⟩ : ∃ sg, sg = zq.sign := ⟨_, rfl⟩
   rw [← hsg] at HW9 ⊢
   have HSG := Lib.hid hsg
   clear hsg
   rcases hss with ⟨h, hxp⟩ | ⟨h, hxn⟩
   ·have HV := Lib.hid (show x / y = zq by rw [wfloor_pos hxp HQ.out HLY.out.1 HLY.out.2, HZQ.out, h, Int.one_mul])
    subst h
    go_wp2
    refine bodyPost_ret (v := .agg #[.int .i64 sg, .slice a9 n9 c9]) (by simp [results, Tryz.results164, go_sem, *]) rfl ⟨_, rfl, ?_, ?_⟩
    ·exact ((HB9.out.setCell (by simp; omega) _).setCell (by simp; omega) _).alloc (by simp; omega) _
    ·rw [HV.out]
     refine WideR.mono (p := fun b => w.heap.size + 3 ≤ b ∧ b < w7.heap.size) (WideR.kept (w := w9) HW9.out (by simp) (fun b hb => ?_)) (fun b hb => by omega)
     rw [((Below.refl _ _).alloc (Nat.le_refl _) _).block b (by simp; omega), Go.Deep.blk_setCell_other _ _ _ _ (by simp; omega), Go.Deep.blk_setCell_other _ _ _ _ (by simp; omega)]
   ·subst h
    rcases ln with _ | ln
    ·have HV := Lib.hid (show x / y = zq by
       have e : dval L = 0 := HLN.out.2 rfl
       rw [wfloor_neg0 hxn (by rw [← e]; exact HQ.out) hy0, HZQ.out]; omega)
     go_wp2
     refine bodyPost_ret (v := .agg #[.int .i64 sg, .slice a9 n9 c9]) (by simp [results, Tryz.results164, go_sem, *]) rfl ⟨_, rfl, ?_, ?_⟩
     ·exact ((HB9.out.setCell (by simp; omega) _).setCell (by simp; omega) _).alloc (by simp; omega) _
     ·rw [HV.out]
      refine WideR.mono (p := fun b => w.heap.size + 3 ≤ b ∧ b < w7.heap.size) (WideR.kept (w := w9) HW9.out (by simp) (fun b hb => ?_)) (fun b hb => by omega)
      rw [((Below.refl _ _).alloc (Nat.le_refl _) _).block b (by simp; omega), Go.Deep.blk_setCell_other _ _ _ _ (by simp; omega), Go.Deep.blk_setCell_other _ _ _ _ (by simp; omega)]
    ·have HV := Lib.hid (show x / y = zq - 1 by
       have e : 0 < dval L := by
        have h1 := HLY.out.1
        have h2 : dval L ≠ 0 := fun h0 => by have := HLN.out.1 h0; omega
        omega
       rw [wfloor_neg hxn HQ.out e HLY.out.2, HZQ.out]; omega)
     go_wp2_with fail
     generalize hW : w9.alloc _ = wA
     have hbA : Below w9.heap.size w9 wA := by rw [← hW]; exact (Below.refl _ _).alloc (Nat.le_refl _) _
     have t0 : wA.cell? ⟨w9.heap.size, 0, none⟩ = some (.int .i64 sg) := by { rw [← hW]; clear hW; go_simp }
     have t1 : wA.cell? ⟨w9.heap.size, 1, none⟩ = some (.slice a9 n9 c9) := by { rw [← hW]; clear hW; go_simp }
     have g0 : wA.frozen? ⟨w9.heap.size, 0, none⟩ = false := by { rw [← hW]; clear hW; go_simp }
     have g1 : wA.frozen? ⟨w9.heap.size, 1, none⟩ = false := by { rw [← hW]; clear hW; go_simp }
     have hzA : wA.heap.size = w9.heap.size + 1 := by rw [← hW]; simp
     have q0c : wA.cell? ⟨w.heap.size, 0, none⟩ = some (.int .i64 (-1)) := bwc hbA; have q1c : wA.cell? ⟨w.heap.size, 1, none⟩ = some (.slice (a1) n1 c1) := bwc hbA; have r0c : wA.cell? ⟨w.heap.size + 1, 0, none⟩ = some (.int .i64 1) := bwc hbA; have r1c : wA.cell? ⟨w.heap.size + 1, 1, none⟩ = some (.slice (a2) n2 c2) := bwc hbA; have z0c : wA.cell? ⟨w.heap.size + 1 + 1, 0, none⟩ = some (.int .i64 0) := bwc hbA; have z1c : wA.cell? ⟨w.heap.size + 1 + 1, 1, none⟩ = some (.slice none 0 0) := bwc hbA; have f0c : wA.frozen? ⟨w.heap.size + 1 + 1, 0, none⟩ = false := bwf hbA; have f1c : wA.frozen? ⟨w.heap.size + 1 + 1, 1, none⟩ = false := bwf hbA; have l0c : w.heap.size + 1 + 1 < wA.heap.size := by { omega }; have m0c : w.heap.size < wA.heap.size := by { omega }; have m1c : w.heap.size + 1 < wA.heap.size := by { omega }
     have HBA9 := Lib.hid (HB9.out.trans (hbA.mono (by omega)))
     have HWA := Lib.hid (HW9.out.below hbA)
     clear hW hbA q0b q1b r0b r1b z0b z1b f0b f1b l0b m0b m1b HW9
     go_wp2_with fail
     refine wp_region_laterZ (B := w9.heap.size + 1) [0] [1, 2, 3] 3 (by kernel_rfl) (by kernel_rfl) ?_; simp only [List.filterMap_cons, List.filterMap_nil, List.getElem?_cons_zero, List.getElem?_cons_succ]; repeat (show wpQuiet _ _ _ _ (_ :: _) _; go_big_quiet_step (fail))
     refine wpQuiet_nil ?_
     refine tailZ_cons ?_
     go_wp2_with fail
     refine (wideOfInt_any 1 _ (by omega) (by omega)).mono ?_
     rintro e10 w10 ⟨v10, rfl, hb10, hW10⟩
     have hb10' : Below (w9.heap.size + 1) wA w10 := (Below.refl (w9.heap.size + 1) wA).drew.trans (hb10.mono (by simp; omega))
     have hz10 := hb10'.size
     have hW10' := hW10.here
     have HSB := Lib.hid (fun v (hv : WideR (fun b => w.heap.size + 3 ≤ b ∧ b < w7.heap.size) w10 v zq) => wideSub_any (fun b => (w.heap.size + 3 ≤ b ∧ b < w7.heap.size) ∨ (w9.heap.size < b ∧ b < w10.heap.size)) v v10 zq 1 (K + 1) w10 (hv.mono (fun b hb => .inl hb)) (hW10'.mono (fun b hb => .inr ⟨by have := hb.1; simp at this; omega, hb.2⟩)) (fun b hb => by omega) (by have := HXK.out; have := HQX.out; have := HZN.out; have := pw_mono (m := K) (n := K + 1) (by omega); omega) (by have := pw_pos K; simp only [pw]; omega) (by omega))
     have HSB2 := Lib.hid (HSB.out _ (HWA.out.below (hb10'.mono (by omega))))
     obtain ⟨a10, n10, c10, l10, rfl, _⟩ := hW10
     have t0' : w10.cell? ⟨w9.heap.size, 0, none⟩ = some (.int .i64 sg) := bwc hb10'; have t1' : w10.cell? ⟨w9.heap.size, 1, none⟩ = some (.slice a9 n9 c9) := bwc hb10'; have g0' : w10.frozen? ⟨w9.heap.size, 0, none⟩ = false := bwf hb10'; have g1' : w10.frozen? ⟨w9.heap.size, 1, none⟩ = false := bwf hb10'
     have q0d : w10.cell? ⟨w.heap.size, 0, none⟩ = some (.int .i64 (-1)) := bwc hb10'; have q1d : w10.cell? ⟨w.heap.size, 1, none⟩ = some (.slice (a1) n1 c1) := bwc hb10'; have r0d : w10.cell? ⟨w.heap.size + 1, 0, none⟩ = some (.int .i64 1) := bwc hb10'; have r1d : w10.cell? ⟨w.heap.size + 1, 1, none⟩ = some (.slice (a2) n2 c2) := bwc hb10'; have z0d : w10.cell? ⟨w.heap.size + 1 + 1, 0, none⟩ = some (.int .i64 0) := bwc hb10'; have z1d : w10.cell? ⟨w.heap.size + 1 + 1, 1, none⟩ = some (.slice none 0 0) := bwc hb10'; have f0d : w10.frozen? ⟨w.heap.size + 1 + 1, 0, none⟩ = false := bwf hb10'; have f1d : w10.frozen? ⟨w.heap.size + 1 + 1, 1, none⟩ = false := bwf hb10'; have l0d : w.heap.size + 1 + 1 < w10.heap.size := by { omega }; have m0d : w.heap.size < w10.heap.size := by { omega }; have m1d : w.heap.size + 1 < w10.heap.size := by { omega }
     have HB10 := Lib.hid hb10'
     clear hb10 hb10' hW10' HSB HWA q0c q1c r0c r1c z0c z1c f0c f1c l0c m0c m1c t0 t1 g0 g1
     go_wp2_with fail
     refine tailL_mk HB10.out ?_
     refine tailZ_cons ?_
     go_wp2_with fail
     refine HSB2.out.mono ?_
     rintro e11 w11 ⟨v11, rfl, hb11, hW11⟩
     have HW11 := Lib.hid (hW11.mono (q := fun b => w.heap.size + 3 ≤ b ∧ b ≠ w9.heap.size) (fun b hb => by omega))
     obtain ⟨a11, n11, c11, l11, rfl, _⟩ := hW11
     have hz11 := hb11.size
     have t0'' : w11.cell? ⟨w9.heap.size, 0, none⟩ = some (.int .i64 sg) := bwc hb11; have t1'' : w11.cell? ⟨w9.heap.size, 1, none⟩ = some (.slice a9 n9 c9) := bwc hb11; have g0'' : w11.frozen? ⟨w9.heap.size, 0, none⟩ = false := bwf hb11; have g1'' : w11.frozen? ⟨w9.heap.size, 1, none⟩ = false := bwf hb11
     have q0e : w11.cell? ⟨w.heap.size, 0, none⟩ = some (.int .i64 (-1)) := bwc hb11; have q1e : w11.cell? ⟨w.heap.size, 1, none⟩ = some (.slice (a1) n1 c1) := bwc hb11; have r0e : w11.cell? ⟨w.heap.size + 1, 0, none⟩ = some (.int .i64 1) := bwc hb11; have r1e : w11.cell? ⟨w.heap.size + 1, 1, none⟩ = some (.slice (a2) n2 c2) := bwc hb11; have z0e : w11.cell? ⟨w.heap.size + 1 + 1, 0, none⟩ = some (.int .i64 0) := bwc hb11; have z1e : w11.cell? ⟨w.heap.size + 1 + 1, 1, none⟩ = some (.slice none 0 0) := bwc hb11; have f0e : w11.frozen? ⟨w.heap.size + 1 + 1, 0, none⟩ = false := bwf hb11; have f1e : w11.frozen? ⟨w.heap.size + 1 + 1, 1, none⟩ = false := bwf hb11; have l0e : w.heap.size + 1 + 1 < w11.heap.size := by { omega }; have m0e : w.heap.size < w11.heap.size := by { omega }; have m1e : w.heap.size + 1 < w11.heap.size := by { omega }
     have HB11 := Lib.hid (HB10.out.trans (hb11.mono (by omega)))
     have HBE := Lib.hid (HBA9.out.trans (HB11.out.mono (by omega)))
     clear hb11 HSB2 q0d q1d r0d r1d z0d z1d f0d f1d l0d m0d m1d t0' t1' g0' g1' HB10
     obtain ⟨sg2, hsg2⟩ : ∃ sg, sg = (zq - 1).sign := ⟨_, rfl⟩
     rw [← hsg2] at HW11 ⊢
     clear hsg2
     go_wp2_with fail
     refine tailL_mk HB11.out ?_
     refine tailZ_last ?_
     go_wp2_with fail
     refine tailZ_end ?_
     go_wp2
     refine bodyPost_ret (v := .agg #[.int .i64 sg2, .slice a11 n11 c11]) (by simp [results, Tryz.results164, go_sem, *]) rfl ⟨_, rfl, ?_, ?_⟩
     ·exact ((((HBE.out.setCell (by simp; omega) _).setCell (by simp; omega) _).setCell (by simp; omega) _).setCell (by simp; omega) _)
     ·rw [HV.out]
      refine WideR.mono (p := fun b => w.heap.size + 3 ≤ b ∧ b ≠ w9.heap.size) (WideR.kept (w := w11) HW11.out (by simp) (fun b hb => ?_)) (fun b hb => by omega)
      rw [Go.Deep.blk_setCell_other _ _ _ _ (by simp; omega), Go.Deep.blk_setCell_other _ _ _ _ (by simp; omega), Go.Deep.blk_setCell_other _ _ _ _ (by simp; omega), Go.Deep.blk_setCell_other _ _ _ _ (by simp; omega)]
  ·obtain ⟨b1, o1, rfl, hb1, hc1⟩ := H1.out.addr (by omega)
   obtain ⟨A, hA⟩ : ∃ A, A = l1.getD k 0 := ⟨_, rfl⟩
   have bA : 0 ≤ A ∧ A ≤ 999999999 := by rw [hA]; exact D1.out.get k
   have hck1 : w7.cell? ⟨b1, o1 + k, none⟩ = some (.int .i64 A) := by
    rw [cellB HB7.out _ _ (by omega), cellB HB6.out _ _ hb1, hA]; exact hc1 k (by omega)
   have HA := Lib.hid hA
   clear hc1 hA
   have i0 : (0 : Int) ≤ (k : Int) := by omega
   have i1 : (k : Int) < (n1 : Int) := by omega
   have HRL := Lib.hid (show SlR (w7.alloc (Obj.cells #[.int .i64 A] 3)) la ln 1 (icells L) from HL7.out.1.below (by (first|exact bwg|go_size)))
   go_wp2_with (at_builtin; refine wpList_append_sl _ rfl _ _ 48 rfl w7.heap.size 3 _ 1 8 Tryz.underlying48 infoInt rfl (by omega) (.slice (some ⟨w7.heap.size, 0, none⟩) 1 1) 1 [.int .i64 A] rfl (owns_lit (cs := #[.int .i64 A]) rfl (Nat.le_refl _) (by omega) rfl) _ ln lc (icells L) rfl HRL.out (icells_one L) (by omega) (by omega) (by simp) ?_)
   intro v8 w8 hown8 _ hb8
   obtain ⟨av, cv, rfl, hcv, _⟩ := owns_slice hown8
   have hb8' : Below w7.heap.size w7 w8 := (Below.alloc (Below.refl _ _) (Nat.le_refl _) _).trans hb8
   have hz8 := hb8'.size
   have HI8 := Lib.hid (show IntsR w8 av (1 + ln) (A :: L) from SlR.of_owns hown8)
   have HG8 := Lib.hid (fun b o (h0 : 0 < 1 + ln) (ha : av = some ⟨b, o, none⟩) => owns_ge hown8 h0 ha)
   have HD8 := Lib.hid (show DOk (A :: L) from fun d hd => by
    rcases List.mem_cons.1 hd with rfl | h
    ·exact bA
    ·exact HL7.out.2.1 d h)
   have HTR := Lib.hid (trimmed_any (A :: L) av (1 + ln) cv w8 HI8.out HD8.out hcv)
   have HB8 := Lib.hid hb8'
   have q0b : w8.cell? ⟨w.heap.size, 0, none⟩ = some (.int .i64 (s)) := bwc hb8'; have q1b : w8.cell? ⟨w.heap.size, 1, none⟩ = some (.slice (some ⟨b1, o1, none⟩) n1 c1) := bwc hb8'; have r0b : w8.cell? ⟨w.heap.size + 1, 0, none⟩ = some (.int .i64 1) := bwc hb8'; have r1b : w8.cell? ⟨w.heap.size + 1, 1, none⟩ = some (.slice (a2) n2 c2) := bwc hb8'; have z0b : w8.cell? ⟨w.heap.size + 1 + 1, 0, none⟩ = some (.int .i64 0) := bwc hb8'; have z1b : w8.cell? ⟨w.heap.size + 1 + 1, 1, none⟩ = some (.slice none 0 0) := bwc hb8'; have f0b : w8.frozen? ⟨w.heap.size + 1 + 1, 0, none⟩ = false := bwf hb8'; have f1b : w8.frozen? ⟨w.heap.size + 1 + 1, 1, none⟩ = false := bwf hb8'; have l0b : w.heap.size + 1 + 1 < w8.heap.size := by { omega }; have m0b : w.heap.size < w8.heap.size := by { omega }; have m1b : w.heap.size + 1 < w8.heap.size := by { omega }
   have HO8 := Lib.hid (owns_below HO7.out hb8' (fun q hq => by simp [Value.ownBlock] at hq; omega))
   clear hown8 hb8 hb8' HO7 HRL hck1 q0a q1a r0a r1a z0a z1a f0a f1a l0a m0a m1a
   go_wp2_with fail
   refine HTR.out.mono ?_
   rintro e5 w5 ⟨⟨m5, c5, rfl, hm5, hmc5, hT5, hV5⟩, rfl⟩
   have HI5 := Lib.hid (HI8.out.take hm5)
   have HD5 := Lib.hid (HD8.out.take m5)
   have HT5 := Lib.hid hT5
   have hV5' : dval ((A :: L).take m5) = A + 1000000000 * dval L := by rw [hV5]; rfl
   generalize (A :: L).take m5 = L1 at *
   obtain ⟨V, hV⟩ : ∃ V, V = dval L1 := ⟨_, rfl⟩
   have HV := Lib.hid hV
   have hVA : V = A + 1000000000 * dval L := by rw [hV]; exact hV5'
   have hVb : V < 1000000000 * y := by have := HL7.out.2.2.2.2.2; omega
   have hV0 : 0 ≤ V := by rw [hV]; exact (dval_bd HD5.out).1
   have HVA := Lib.hid hVA
   clear hT5 hV5 hV5' HTR HI8 HD8 hV hVA
   go_wp2
   go_loopw [8, 9] (fun v1 v2 wq => ∃ lo hi : Int, v1 = .int .i64 lo ∧ v2 = .int .i64 hi ∧ 0 ≤ lo ∧ lo ≤ hi ∧ hi ≤ 999999999 ∧ Hid (y * lo ≤ V ∧ V < y * (hi + 1)) ∧ Hid (Below w8.heap.size w8 wq)) (fun v1 v2 _ => (intOf v2 - intOf v1).toNat)
   case atStart => exact ⟨0, 999999999, rfl, rfl, by omega, by omega, by omega, Lib.hid ⟨by simpa using hV0, by omega⟩, Lib.hid (Below.refl _ _)⟩
   case round =>
    obtain ⟨lo, hi, rfl, rfl, hlo, hlh, hhi, hVV, hB⟩ := hrel
    obtain ⟨w9, rfl⟩ : ∃ w', w' = wr := ⟨wr, rfl⟩
    have hb9 := hB.out
    have hz9 := hb9.size
    have q0c : w9.cell? ⟨w.heap.size, 0, none⟩ = some (.int .i64 (s)) := bwc hb9; have q1c : w9.cell? ⟨w.heap.size, 1, none⟩ = some (.slice (some ⟨b1, o1, none⟩) n1 c1) := bwc hb9; have r0c : w9.cell? ⟨w.heap.size + 1, 0, none⟩ = some (.int .i64 1) := bwc hb9; have r1c : w9.cell? ⟨w.heap.size + 1, 1, none⟩ = some (.slice (a2) n2 c2) := bwc hb9; have z0c : w9.cell? ⟨w.heap.size + 1 + 1, 0, none⟩ = some (.int .i64 0) := bwc hb9; have z1c : w9.cell? ⟨w.heap.size + 1 + 1, 1, none⟩ = some (.slice none 0 0) := bwc hb9; have f0c : w9.frozen? ⟨w.heap.size + 1 + 1, 0, none⟩ = false := bwf hb9; have f1c : w9.frozen? ⟨w.heap.size + 1 + 1, 1, none⟩ = false := bwf hb9; have l0c : w.heap.size + 1 + 1 < w9.heap.size := by { omega }; have m0c : w.heap.size < w9.heap.size := by { omega }; have m1c : w.heap.size + 1 < w9.heap.size := by { omega }
    have HB9 := Lib.hid hB.out
    have HVV := Lib.hid hVV.out
    have HBW := Lib.hid (HB6.out.trans ((HB7.out.trans (HB8.out.mono (by omega))).trans (hb9.mono (by omega)) |>.mono (by omega)))
    have HI2 := Lib.hid (H2.out.below (HBW.out))
    clear q0b q1b r0b r1b z0b z1b f0b f1b l0b m0b m1b hb9 hB hVV
    by_cases hlt : lo < hi
    ·have wl1 : IntKind.i64.wrap (lo + hi) = lo + hi := IntWalk.i64_in _ (by omega)
     have wl2 : IntKind.i64.wrap (lo + hi + 1) = lo + hi + 1 := IntWalk.i64_in _ (by omega)
     obtain ⟨m, hm⟩ : ∃ m, m = (lo + hi + 1) / 2 := ⟨_, rfl⟩
     have hmb : lo < m ∧ m ≤ hi := by omega
     go_wp2_with fail
     rw [← hm]
     have HM := Lib.hid hm
     clear hm wl1 wl2
     refine (HW1.out w9 (HI2.out)).mono ?_
     rintro e9 w9 ⟨v9, rfl, hb9, hW9⟩
     have HWA := Lib.hid hW9
     have HB9 := Lib.hid hb9
     obtain ⟨a9, n9, c9, l9, rfl, _⟩ := hW9
     clear hb9
     have hsy : y.sign = 1 := Int.sign_eq_one_of_pos hy0
     go_wp2_with fail
     refine (wideOfInt_any (m) w9 (by omega) (by omega)).mono ?_
     rintro e10 w10 ⟨v10, rfl, hb10, hW10⟩
     have HMU := Lib.hid (wideMul_any (fun _ => True) _ _ y (m) M 1 w10 (HWA.out.below hb10) (hW10.mono (fun _ _ => trivial)) HYM.out (by simp only [pw]; omega) (by omega))
     have HB10 := bwt HB9 hb10
     obtain ⟨a10, n10, c10, l10, rfl, _⟩ := hW10
     clear hb10 HB9 HWA
     obtain ⟨sg, hsg⟩ : ∃ sg, sg = (m : Int).sign := ⟨_, rfl⟩
     rw [← hsg] at HMU ⊢
     rw [hsy] at HMU
     clear hsg hsy
     go_wp2_with fail
     refine HMU.out.mono ?_
     rintro e11 w11 ⟨v11, rfl, hb11, hW11⟩
     obtain ⟨a11, n11, c11, l11, rfl, hi11, hd11, ht11, hv11, _, _⟩ := hW11
     have HI11 := Lib.hid hi11
     have HD11 := Lib.hid hd11
     have HT11 := Lib.hid ht11
     have HV11 := Lib.hid (show dval l11 = y * (m) by rw [hv11]; have := Int.mul_nonneg (Int.le_of_lt hy0) (show (0 : Int) ≤ (m) by omega); omega)
     have HB11 := bwt HB10 hb11
     clear hi11 hd11 ht11 hv11 hb11 HMU HB10
     obtain ⟨sg1, hsg1⟩ : ∃ sg, sg = (y * (m) : Int).sign := ⟨_, rfl⟩
     rw [← hsg1]
     clear hsg1
     have hf1 := wfield1 sg1 a11 n11 c11 w11
     go_wp2_with fail
     refine (cmpDigits_any l11 L1 a11 av n11 c11 m5 c5 w11 HI11.out (HI5.out.below (HB9.out.trans (HB11.out.mono (by omega)))) HD11.out HD5.out HT11.out HT5.out).mono ?_
     rintro e12 w12 ⟨rfl, n12, rfl⟩
     rw [HV11.out, ← HV.out]
     obtain ⟨cs, hcs⟩ : ∃ cs, cs = (y * m - V).sign := ⟨_, rfl⟩
     rw [← hcs]
     have HB12 := Lib.hid (HB9.out.trans ((HB11.out.drewN n12).mono hz9))
     clear HI11 HD11 HT11 HV11 HB11 hf1
     by_cases hc : cs ≤ 0
     ·have HC := Lib.hid (show y * m ≤ V by
        have : ¬ 0 < (y * m - V).sign := by rw [← hcs]; omega
        rw [Int.sign_pos_iff] at this; omega)
      clear hcs
      go_wp2
      go_roundw
      case rel => exact ⟨m, hi, rfl, rfl, by omega, by omega, hhi, Lib.hid ⟨HC.out, HVV.out.2⟩, HB12⟩
      case measure => simp [intOf]; omega
     ·have HC := Lib.hid (show V < y * (m - 1 + 1) by
        have : 0 < (y * m - V).sign := by rw [← hcs]; omega
        rw [Int.sign_pos_iff] at this
        rw [show m - 1 + 1 = m by omega]; omega)
      clear hcs
      go_wp2
      go_roundw
      case rel => exact ⟨lo, m - 1, rfl, rfl, by omega, by omega, by omega, Lib.hid ⟨HVV.out.1, HC.out⟩, HB12⟩
      case measure => simp [intOf]; omega
    ·obtain rfl : hi = lo := by omega
     have HO9 := Lib.hid (owns_below HO8.out HB9.out (fun q hq => by simp [Value.ownBlock] at hq; omega))
     have fX : w9.frozen? ⟨w.heap.size + 1 + 1 + 1, k, none⟩ = false := HO9.out.frozenAt k
     have l9 : w.heap.size + 1 + 1 + 1 < w9.heap.size := by omega
     have cX : w9.cell? ⟨w.heap.size + 1 + 1 + 1, k, none⟩ = some (.int .i64 0) := by
      rw [HO9.out.cellAt k (by omega), icells_get (by rw [HF7.out.1]; omega), HF7.out.2.2.1 _ (by omega)]
     go_wp2_with fail
     generalize hW : w9.setCell _ _ = wS
     have hst := World.ownsRow.stored HO9.out k (.int .i64 hi)
     rw [icells_set'] at hst
     have hOS : wS.ownsRow (w.heap.size + 3) 3 1 (.slice (some ⟨w.heap.size + 3, 0, none⟩) n1 n1) n1 (icells (Q.set k hi)) := by rw [← hW]; exact hst.1
     have hbS : Below (w.heap.size + 3) w9 wS := by rw [← hW]; exact (Below.refl _ _).setCell (by simp) _
     have hIS : IntsR wS av m5 L1 := (HI5.out.below HB9.out).kept (by rw [← hW]; simp) (fun b o h0 ha => by
      have := HG8.out b o (by omega) ha
      rw [← hW, Go.Deep.blk_setCell_other _ _ _ _ (by simp; omega)])
     have hI2S : IntsR wS a2 n2 l2 := HI2.out.kept (by rw [← hW]; simp) (fun b o h0 ha => by
      obtain ⟨b', o', h1, h2, _⟩ := H2.out.addr h0
      rw [h1] at ha
      simp only [Option.some.injEq, Addr.mk.injEq] at ha
      rw [← hW, Go.Deep.blk_setCell_other _ _ _ _ (by simp; omega)])
     have hzS := hbS.size
     have q0d : wS.cell? ⟨w.heap.size, 0, none⟩ = some (.int .i64 (s)) := bwc hbS; have q1d : wS.cell? ⟨w.heap.size, 1, none⟩ = some (.slice (some ⟨b1, o1, none⟩) n1 c1) := bwc hbS; have r0d : wS.cell? ⟨w.heap.size + 1, 0, none⟩ = some (.int .i64 1) := bwc hbS; have r1d : wS.cell? ⟨w.heap.size + 1, 1, none⟩ = some (.slice (a2) n2 c2) := bwc hbS; have z0d : wS.cell? ⟨w.heap.size + 1 + 1, 0, none⟩ = some (.int .i64 0) := bwc hbS; have z1d : wS.cell? ⟨w.heap.size + 1 + 1, 1, none⟩ = some (.slice none 0 0) := bwc hbS; have f0d : wS.frozen? ⟨w.heap.size + 1 + 1, 0, none⟩ = false := bwf hbS; have f1d : wS.frozen? ⟨w.heap.size + 1 + 1, 1, none⟩ = false := bwf hbS; have l0d : w.heap.size + 1 + 1 < wS.heap.size := by { omega }; have m0d : w.heap.size < wS.heap.size := by { omega }; have m1d : w.heap.size + 1 < wS.heap.size := by { omega }
     have HOS := Lib.hid hOS
     have HBS := Lib.hid ((HB7.out.trans ((HB8.out.trans (HB9.out.mono hz8)).mono (by omega))).trans hbS)
     have HIS := Lib.hid hIS
     have HI2S := Lib.hid hI2S
     clear hW hst hOS hbS hIS hI2S fX cX q0c q1c r0c r1c z0c z1c f0c f1c l0c m0c m1c
     refine (HW1.out wS (HI2S.out)).mono ?_
     rintro e9 w9 ⟨v9, rfl, hb9, hW9⟩
     have HWA := Lib.hid hW9
     have HB9 := Lib.hid hb9
     obtain ⟨a9, n9, c9, l9, rfl, _⟩ := hW9
     clear hb9
     have hsy : y.sign = 1 := Int.sign_eq_one_of_pos hy0
     go_wp2_with fail
     refine (wideOfInt_any (hi) w9 (by omega) (by omega)).mono ?_
     rintro e10 w10 ⟨v10, rfl, hb10, hW10⟩
     have HMU := Lib.hid (wideMul_any (fun _ => True) _ _ y (hi) M 1 w10 (HWA.out.below hb10) (hW10.mono (fun _ _ => trivial)) HYM.out (by simp only [pw]; omega) (by omega))
     have HB10 := bwt HB9 hb10
     obtain ⟨a10, n10, c10, l10, rfl, _⟩ := hW10
     clear hb10 HB9 HWA
     obtain ⟨sg, hsg⟩ : ∃ sg, sg = (hi : Int).sign := ⟨_, rfl⟩
     rw [← hsg] at HMU ⊢
     rw [hsy] at HMU
     clear hsg hsy
     go_wp2_with fail
     refine HMU.out.mono ?_
     rintro e11 w11 ⟨v11, rfl, hb11, hW11⟩
     obtain ⟨a11, n11, c11, l11, rfl, hi11, hd11, ht11, hv11, _, _⟩ := hW11
     have HI11 := Lib.hid hi11
     have HD11 := Lib.hid hd11
     have HT11 := Lib.hid ht11
     have HV11 := Lib.hid (show dval l11 = y * (hi) by rw [hv11]; have := Int.mul_nonneg (Int.le_of_lt hy0) (show (0 : Int) ≤ (hi) by omega); omega)
     have HB11 := bwt HB10 hb11
     clear hi11 hd11 ht11 hv11 hb11 HMU HB10
     obtain ⟨sg1, hsg1⟩ : ∃ sg, sg = (y * (hi) : Int).sign := ⟨_, rfl⟩
     rw [← hsg1]
     clear hsg1
     have hf1 := wfield1 sg1 a11 n11 c11 w11
     go_wp2_with fail
     have hm5 : m5 ≤ 1 + M := by omega
     refine (subDigits_any L1 l11 av a11 m5 c5 n11 c11 w11 (HIS.out.below HB11.out) HI11.out HD5.out HD11.out (by omega) (by rw [HV11.out, ← HV.out]; exact HVV.out.1)).mono ?_
     rintro e12 w12 ⟨a12, n12, c12, rfl, hb12, l12, hi12, hd12, ht12, hv12, hc12, hg12⟩
     rw [HV11.out, ← HV.out] at hv12
     have HL12 := Lib.hid (show IntsR w12 a12 n12 l12 ∧ DOk l12 ∧ Top l12 ∧ n12 ≤ c12 ∧ (∀ b o, 0 < n12 → a12 = some ⟨b, o, none⟩ → w.heap.size + 4 ≤ b) ∧ dval l12 < y from
      ⟨hi12, hd12, ht12, hc12, fun b o h0 ha => by have := hg12 b o h0 ha; have := HB11.out.size; omega, by rw [hv12]; have h1 := HVV.out.2; rw [Int.mul_add, Int.mul_one] at h1; omega⟩)
     have hn12 : n12 ≤ M := by
      have := ht12.len hd12 (K := M) (Int.lt_trans HL12.out.2.2.2.2.2 (by have := HYM.out; omega))
      rw [hi12.len] at this; exact this
     have HF12 := Lib.hid (show dval (l1.drop k) = dval ((Q.set k hi).drop k) * y + dval l12 from
      div_step l1 Q k y (dval L) (dval l12) hi (by rw [HF7.out.1]; omega) (HF7.out.2.2.1 _ (by omega)) HF7.out.2.2.2 (by rw [← HA.out, ← HVA.out, hv12]))
     have HB12 := Lib.hid (HBS.out.trans ((HB11.out.trans (hb12.mono HB11.out.size)).mono (by omega)))
     have HO12 := Lib.hid (owns_below HOS.out (HB11.out.trans (hb12.mono HB11.out.size)) (fun q hq => by simp [Value.ownBlock] at hq; omega))
     clear hi12 hd12 ht12 hv12 hc12 hg12 hb12
     go_wp2
     go_roundw
     case rel =>
      exact ⟨k, _, _, _, l12, Q.set k hi, by go_num, by omega, rfl, HL12, hn12, HO12, Lib.hid ⟨by rw [List.length_set]; exact HF7.out.1, HF7.out.2.1.set k hlo hhi, fun j hj => by rw [getD_setW_ne _ _ _ _ (by omega)]; exact HF7.out.2.2.1 j (by omega), HF12.out⟩, HB12⟩
     case measure => simp [intOf]
/- Wide numbers: WideFloor of any number, WideInt. -/
set_option maxRecDepth 100000 in
theorem wideFloor_any (p : Nat → Prop) (va vb : Value) (x y : Int) (K M : Nat) (w : World) (h : WideR p w va x) (h' : WideR p w vb y) (hy0 : 0 < y) (hx : (x.natAbs : Int) < pw K) (hy : (y.natAbs : Int) < pw M) (hK : K ≤ 900000) (hM : M ≤ 900000) :
    Calls Tryz.prog 164 #[va, vb] w fun e' w' => ∃ v', e' = .returned v' ∧ Below w.heap.size w w' ∧ WideR (fun b => w.heap.size ≤ b) w' v' (x / y) := by
 by_cases hx0 : x = 0
 ·have HZ := Lib.hid (show x / y = 0 by rw [hx0]; simp)
  obtain ⟨a1, n1, c1, l1, rfl, h2, h3, h4, h5, h6, h7⟩ := h
  obtain ⟨a2, n2, c2, l2, rfl, k2, k3, k4, k5, k6, k7⟩ := h'
  subst hx0
  clear h2 h3 h4 h5 h6 h7 k2 k3 k4 k5 k6 k7 hx hy hy0
  rw [show (0 : Int).sign = 0 from rfl]
  generalize y.sign = t at *
  go_enter Tryz.func164, Tryz.ntmps164
  go_wp2
  refine bodyPost_ret (v := .agg #[.int .i64 0, .slice none 0 0]) (by simp [results, Tryz.results164, go_sem]) rfl ⟨_, rfl, by (first|exact bwg|go_size), ?_⟩
  exact ⟨none, 0, 0, [], by rw [HZ.out]; rfl, IntsR.nil _ _, DOk.nil, Top.nil, by rw [HZ.out]; rfl, Nat.le_refl _, fun _ _ h0 => absurd h0 (by omega)⟩
 ·exact wideFloor_main p va vb x y K M w h h' hx0 hy0 hx hy hK hM
theorem two_len {l : List Int} (hd : DOk l) (ht : Top l) : l.length ≤ 2 ↔ dval l < 1000000000000000000 := by
 constructor
 ·intro h
  have h1 := (dval_bd hd).2
  have h2 := pw_mono h
  have h3 : pw 2 = 1000000000000000000 := by simp [pw]
  omega
 ·intro h
  exact ht.len hd (K := 2) (by simp only [pw]; omega)
theorem two_step {l : List Int} (hd : DOk l) (h : l.length ≤ 2) (k : Nat) : 0 ≤ dval (l.drop k) ∧ (0 < k → dval (l.drop k) ≤ 999999999) ∧ dval (l.drop k) ≤ 999999999999999999 := by
 have h1 := dval_bd (hd.drop k)
 rw [List.length_drop] at h1
 have h2 := pw_mono (m := l.length - k) (n := 2) (by omega)
 have h3 : pw 2 = 1000000000000000000 := by simp [pw]
 refine ⟨h1.1, fun hk => ?_, by omega⟩
 have h4 := pw_mono (m := l.length - k) (n := 1) (by omega)
 have h5 : pw 1 = 1000000000 := by simp [pw]
 omega
set_option maxHeartbeats 400000 in
set_option maxRecDepth 100000 in
theorem wideInt_any (p : Nat → Prop) (v : Value) (z : Int) (w : World) (h : WideR p w v z) :
    Calls Tryz.prog 168 #[v] w fun e' w' => e' = .returned (if (z.natAbs : Int) < 1000000000000000000 then .tuple #[.int .i64 z, .bool true] else .tuple #[.int .i64 0, .bool false]) ∧ Below w.heap.size w w' := by
 obtain ⟨a1, n1, c1, l1, rfl, h2, h3, h4, h5, h6, h7⟩ := h
 have hl := h2.len
 have h8 := two_len h3 h4
 rw [hl, h5] at h8
 have hs := sign_bd z
 have hn := h2.small
 by_cases hn1 : n1 ≤ 2
 ·rw [if_pos (h8.1 hn1)]
  have HST := Lib.hid (fun k => two_step h3 (by rw [hl]; exact hn1) k)
  have HI := Lib.hid h2
  have HZ := Lib.hid (show z.sign * dval l1 = z by rw [h5]; exact Int.sign_mul_natAbs z)
  have H0 := Lib.hid (show dval (l1.drop n1) = 0 by rw [List.drop_eq_nil_of_le (by omega)]; rfl)
  have HL := Lib.hid hl
  have HD := Lib.hid h3
  clear h2 h3 h4 h5 h6 h7 h8 hl
  obtain ⟨s, hsg⟩ : ∃ s, s = z.sign := ⟨_, rfl⟩
  rw [← hsg] at hs HZ ⊢
  clear hsg
  go_enter Tryz.func168, Tryz.ntmps168
  go_wp2
  generalize hW : World.alloc _ _ = w6
  have hb6 : Below w.heap.size w w6 := by rw [← hW]; (first|exact bwg|go_size)
  have q0 : w6.cell? ⟨w.heap.size, 0, none⟩ = some (.int .i64 s) := by { rw [← hW]; clear hW; go_simp }
  have q1 : w6.cell? ⟨w.heap.size, 1, none⟩ = some (.slice a1 n1 c1) := by { rw [← hW]; clear hW; go_simp }
  have l0 : w.heap.size < w6.heap.size := by { rw [← hW]; simp }
  have HB6 := Lib.hid hb6
  clear hW hb6
  go_loopw [4, 5] (fun v i wr => ∃ k : Nat, i = .int .i64 ((k : Int) - 1) ∧ k ≤ n1 ∧ v = .int .i64 (dval (l1.drop k)) ∧ wr = w6) (fun _ i _ => (intOf i + 1).toNat)
  case atStart => exact ⟨n1, by go_num, Nat.le_refl _, by rw [H0.out], rfl⟩
  case round =>
   obtain ⟨k, rfl, hk, rfl, rfl⟩ := hrel
   rcases k with _ | k
   ·have hV := (HST.out 0)
    rw [List.drop_zero] at hV ⊢
    have HR := Lib.hid HZ.out
    obtain ⟨V, hVe⟩ : ∃ V, V = dval l1 := ⟨_, rfl⟩
    rw [← hVe] at hV HR ⊢
    clear hVe
    have hsv : s * V = z := HR.out
    have wsv : IntKind.i64.wrap (s * V) = s * V := IntWalk.i64_in _ (by
     have e1 : s = -1 ∨ s = 0 ∨ s = 1 := by omega
     rcases e1 with rfl | rfl | rfl <;> omega)
    clear hsv
    go_wp2
    refine bodyPost_ret (v := .tuple #[.int .i64 (s * V), .bool true]) (by simp [results, Tryz.results168, go_sem, *]) rfl ⟨by rw [HR.out], HB6.out⟩
   ·obtain ⟨b1, o1, rfl, hb1, hc1⟩ := HI.out.addr (by omega)
    obtain ⟨A, hA⟩ : ∃ A, A = l1.getD k 0 := ⟨_, rfl⟩
    have bA : 0 ≤ A ∧ A ≤ 999999999 := by rw [hA]; exact HD.out.get k
    have hck1 : wr.cell? ⟨b1, o1 + k, none⟩ = some (.int .i64 A) := by
     rw [cellB HB6.out _ _ hb1, hA]; exact hc1 k (by omega)
    have HN := Lib.hid (show dval (l1.drop (k + 1)) * 1000000000 + A = dval (l1.drop k) by rw [dval_drop l1 k, hA]; omega)
    have hV := (HST.out (k + 1))
    obtain ⟨V, hVe⟩ : ∃ V, V = dval (l1.drop (k + 1)) := ⟨_, rfl⟩
    rw [← hVe] at hV HN ⊢
    have bV : 0 ≤ V ∧ V ≤ 999999999 := ⟨hV.1, hV.2.1 (by omega)⟩
    clear hVe hV hA hc1
    have i0 : (0 : Int) ≤ (k : Int) := by omega
    have i1 : (k : Int) < (n1 : Int) := by omega
    go_wp2
    go_roundw
    case rel => exact ⟨k, by go_num, by omega, by rw [← HN.out], by first | rfl | trivial⟩
    case measure => simp [intOf]
 ·rw [if_neg (fun h0 => hn1 (h8.2 h0))]
  clear h2 h3 h4 h5 h6 h7 h8 hl
  generalize z.sign = s at *
  go_enter Tryz.func168, Tryz.ntmps168
  go_wp2
  go_ret2
  exact ⟨rfl, by (first|exact bwg|go_size)⟩
end Go.Proofs.YtdjinmieogpgcaaGreat
