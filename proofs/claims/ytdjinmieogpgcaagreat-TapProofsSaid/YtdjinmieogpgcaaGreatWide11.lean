import Derived.Test.YtdjinmieogpgcaaGreatMWide8
/- Wide numbers: WideMul. -/
namespace Go.Proofs.YtdjinmieogpgcaaGreat
open Go.RowKit
set_option linter.unusedVariables false
theorem makeInts6 (P : Program) (w : World) (t e : TypeId) (ht : P.underlying t = some (.slice e)) (hi : (P.info? e).map (fun i => (i.zero, i.size, i.bytes)) = some (some (.int .i64 0), 1, 8)) (n : Nat) (hn : n ≤ 1000000) :
    (Instr.makeSlice t (.int .i64 n) (.int .i64 n)).run P w = .ok (.slice (some ⟨w.heap.size, 0, none⟩) n n) (w.alloc (.cells (madeCells #[.int .i64 0] n) e)) := by
 obtain ⟨i, hi1, hi2, hi3, hi4⟩ := info_parts hi
 have hr := run_make (P := P) w t e i _ ht hi1 hi2 .i64 .i64 n n (by omega) (Int.le_refl _) (by rw [hi4]; omega) (by omega)
 simp only [Int.toNat_natCast, hi3, Nat.mul_one] at hr
 exact hr
theorem mulRow_start (l1 l2 : List Int) (m : Nat) : (List.replicate m (0 : Int)).length = m ∧ DOk (List.replicate m 0) ∧ dval (List.replicate m 0) = dval (l1.take 0) * dval l2 ∧ ∀ j, 0 + l2.length ≤ j → (List.replicate m (0 : Int)).getD j 0 = 0 :=
 ⟨by simp, DOk.zeros m, by rw [dval_zeros]; simp [dval], fun j _ => getD_zeros m j⟩
set_option maxHeartbeats 1000000 in
set_option maxRecDepth 100000 in
theorem wideMul_any (p : Nat → Prop) (va vb : Value) (x y : Int) (K M : Nat) (w : World) (h : WideR p w va x) (h' : WideR p w vb y) (hx : (x.natAbs : Int) < pw K) (hy : (y.natAbs : Int) < pw M) (hK : K + M ≤ 990000) :
    Calls Tryz.prog 145 #[va, vb] w fun e' w' => ∃ v', e' = .returned v' ∧ Below w.heap.size w w' ∧ WideR (fun b => w.heap.size ≤ b) w' v' (x * y) := by
 obtain ⟨a1, n1, c1, l1, rfl, h2, h3, h4, h5, h6, h7⟩ := h
 obtain ⟨a2, n2, c2, l2, rfl, k2, k3, k4, k5, k6, k7⟩ := h'
 have hn1 : n1 ≤ K := by have := h4.len h3 (K := K) (by rw [h5]; exact hx); rw [h2.len] at this; exact this
 have hn2 : n2 ≤ M := by have := k4.len k3 (K := M) (by rw [k5]; exact hy); rw [k2.len] at this; exact this
 have hnn : n1 + n2 + 1 ≤ 990001 := by omega
 have hs1 := sign_bd x
 have hs2 := sign_bd y
 have HWO := Lib.hid (fun (w' : World) (l : List Int) (a : Option Addr) (n c : Nat) (hl : IntsR w' a n l) (hd : DOk l) (hc : n ≤ c) (hv : dval l = dval l1 * dval l2) (hp : ∀ b o, 0 < n → a = some ⟨b, o, none⟩ → w.heap.size + 3 ≤ b) =>
  wideOf_any (fun b => w.heap.size + 3 ≤ b) l a n c (x.sign * y.sign) (x * y) w' hl hd hc (by rw [hv, h5, k5, Int.natAbs_mul, Int.natCast_mul]) (fun _ => sign_mul.symm) hp)
 have H1 := Lib.hid h2
 have H2 := Lib.hid k2
 have D1 := Lib.hid h3
 have D2 := Lib.hid k3
 have hmk : ∀ w' : World, (Instr.makeSlice 48 (.int .i64 ((n1 : Int) + n2 + 1)) (.int .i64 ((n1 : Int) + n2 + 1))).run Tryz.prog w' = .ok (.slice (some ⟨w'.heap.size, 0, none⟩) (n1 + n2 + 1) (n1 + n2 + 1)) (w'.alloc (.cells (madeCells #[Value.int .i64 0] (n1 + n2 + 1)) 3)) := by
  intro w'
  exact makeInts6 Tryz.prog w' 48 3 Tryz.underlying48 infoInt (n1 + n2 + 1) (by omega)
 have hds : (madeCells #[Value.int .i64 0] (n1 + n2 + 1)).toList = icells (List.replicate (n1 + n2 + 1) 0) := by rw [toList_madeCells_one]; simp [icells]
 have hdz : (madeCells #[Value.int .i64 0] (n1 + n2 + 1)).size = n1 + n2 + 1 := by simp [size_madeCells]
 generalize madeCells #[Value.int .i64 0] (n1 + n2 + 1) = ds at hmk hds hdz
 have HDS := Lib.hid (And.intro hds hdz)
 have HST := Lib.hid (mulRow_start l1 l2 (n1 + n2 + 1))
 rw [k2.len] at HST
 clear hds hdz h2 h3 h4 h5 h6 h7 k2 k3 k4 k5 k6 k7 hx hy hn1 hn2
 generalize x.sign = s at *
 generalize y.sign = t at *
 have hst : -1 ≤ s * t ∧ s * t ≤ 1 := by
  have e1 : s = -1 ∨ s = 0 ∨ s = 1 := by omega
  rcases e1 with rfl | rfl | rfl <;> omega
 go_enter Tryz.func145, Tryz.ntmps145
 go_wp2
 generalize hW : World.alloc _ _ = w6
 have hb6 : Below w.heap.size w w6 := by rw [← hW]; (first|exact bwg|go_size)
 have q0 : w6.cell? ⟨w.heap.size, 0, none⟩ = some (.int .i64 s) := by { rw [← hW]; clear hW; go_simp }
 have q1 : w6.cell? ⟨w.heap.size, 1, none⟩ = some (.slice a1 n1 c1) := by { rw [← hW]; clear hW; go_simp }
 have r0 : w6.cell? ⟨w.heap.size + 1, 0, none⟩ = some (.int .i64 t) := by { rw [← hW]; clear hW; go_simp }
 have r1 : w6.cell? ⟨w.heap.size + 1, 1, none⟩ = some (.slice a2 n2 c2) := by { rw [← hW]; clear hW; go_simp }
 have z0 : w6.cell? ⟨w.heap.size + 1 + 1, 0, none⟩ = some (.int .i64 0) := by { rw [← hW]; clear hW; go_simp }
 have z1 : w6.cell? ⟨w.heap.size + 1 + 1, 1, none⟩ = some (.slice none 0 0) := by { rw [← hW]; clear hW; go_simp }
 have f0 : w6.frozen? ⟨w.heap.size + 1 + 1, 0, none⟩ = false := by { rw [← hW]; clear hW; go_simp }
 have f1 : w6.frozen? ⟨w.heap.size + 1 + 1, 1, none⟩ = false := by { rw [← hW]; clear hW; go_simp }
 have hown : w6.ownsRow (w.heap.size + 3) 3 1 (.slice (some ⟨w.heap.size + 3, 0, none⟩) (n1 + n2 + 1) (n1 + n2 + 1)) (n1 + n2 + 1) (icells (List.replicate (n1 + n2 + 1) 0)) := by
  rw [← hW, ← HDS.out.1]
  exact owns_lit (by simp) (Nat.le_refl _) (by omega) (by rw [HDS.out.2]; simp)
 have hz6 : w.heap.size + 3 < w6.heap.size := by rw [← hW]; simp
 have HB6 := Lib.hid hb6
 have HOW := Lib.hid hown
 clear hW hb6 hown
 go_loopw [6] (fun i wr => ∃ k : Nat, i = .int .i64 k ∧ k ≤ n1 ∧ (∃ o, Hid (wr.ownsRow (w.heap.size + 3) 3 1 (.slice (some ⟨w.heap.size + 3, 0, none⟩) (n1 + n2 + 1) (n1 + n2 + 1)) (n1 + n2 + 1) (icells o)) ∧ Hid (o.length = n1 + n2 + 1 ∧ DOk o ∧ dval o = dval (l1.take k) * dval l2 ∧ ∀ j, k + n2 ≤ j → o.getD j 0 = 0)) ∧ Hid (Below (w.heap.size + 3) w6 wr)) (fun i _ => n1 - (intOf i).toNat)
 case atStart => exact ⟨0, rfl, Nat.zero_le _, ⟨_, HOW, HST⟩, Lib.hid (Below.refl _ _)⟩
 case round =>
  obtain ⟨k, rfl, hk, ⟨o, hO, hF⟩, hB⟩ := hrel
  obtain ⟨w7, rfl⟩ : ∃ w', w' = wr := ⟨wr, rfl⟩
  have hb7 := hB.out
  have hz7 := hb7.size
  have q0a : w7.cell? ⟨w.heap.size, 0, none⟩ = some (.int .i64 s) := bwc hb7; have q1a : w7.cell? ⟨w.heap.size, 1, none⟩ = some (.slice (a1) n1 c1) := bwc hb7; have r0a : w7.cell? ⟨w.heap.size + 1, 0, none⟩ = some (.int .i64 t) := bwc hb7; have r1a : w7.cell? ⟨w.heap.size + 1, 1, none⟩ = some (.slice (a2) n2 c2) := bwc hb7; have z0a : w7.cell? ⟨w.heap.size + 1 + 1, 0, none⟩ = some (.int .i64 0) := bwc hb7; have z1a : w7.cell? ⟨w.heap.size + 1 + 1, 1, none⟩ = some (.slice none 0 0) := bwc hb7; have f0a : w7.frozen? ⟨w.heap.size + 1 + 1, 0, none⟩ = false := bwf hb7; have f1a : w7.frozen? ⟨w.heap.size + 1 + 1, 1, none⟩ = false := bwf hb7; have l0a : w.heap.size + 1 + 1 < w7.heap.size := by { omega }
  have HB7 := Lib.hid hB.out
  have HO7 := Lib.hid hO.out
  have HF7 := Lib.hid hF.out
  clear q0 q1 r0 r1 z0 z1 f0 f1 hb7 hO hF hB
  rcases Nat.lt_or_ge k n1 with hk1 | hk1
  ·obtain ⟨b1, o1, rfl, hb1, hc1⟩ := H1.out.addr (by omega)
   obtain ⟨A, hA⟩ : ∃ A, A = l1.getD k 0 := ⟨_, rfl⟩
   have bA : 0 ≤ A ∧ A ≤ 999999999 := by rw [hA]; exact D1.out.get k
   have hck1 := hc1 k hk1
   rw [← hA] at hck1
   have HCA := Lib.hid (show ∀ w', Below w7.heap.size w7 w' → w'.cell? ⟨b1, o1 + k, none⟩ = some (.int .i64 A) from fun w' hb => by
    rw [cellB hb _ _ (by omega), cellB HB7.out _ _ (by omega), cellB HB6.out _ _ hb1]; exact hck1)
   have HA := Lib.hid hA
   have hck7 := HCA.out w7 (Below.refl _ _)
   clear hc1 hA hck1
   have i0 : (0 : Int) ≤ (k : Int) := by omega
   have i1 : (k : Int) < (n1 : Int) := by omega
   go_wp2
   go_loopw [7, 8] (fun c i wq => ∃ (j : Nat) (C : Int) (o : List Int), i = .int .i64 j ∧ c = .int .i64 C ∧ j ≤ n2 ∧ 0 ≤ C ∧ C ≤ 999999999 ∧ Hid (wq.ownsRow (w.heap.size + 3) 3 1 (.slice (some ⟨w.heap.size + 3, 0, none⟩) (n1 + n2 + 1) (n1 + n2 + 1)) (n1 + n2 + 1) (icells o)) ∧ Hid (o.length = n1 + n2 + 1 ∧ DOk o ∧ dval o + pw (k + j) * C = dval (l1.take k) * dval l2 + pw k * (A * dval (l2.take j)) ∧ ∀ j, k + n2 ≤ j → o.getD j 0 = 0) ∧ Hid (Below (w.heap.size + 3) w7 wq)) (fun _ i _ => n2 - (intOf i).toNat)
   case atStart => exact ⟨0, 0, o, rfl, rfl, Nat.zero_le _, by omega, by omega, HO7, Lib.hid ⟨HF7.out.1, HF7.out.2.1, by rw [HF7.out.2.2.1]; simp [dval], HF7.out.2.2.2⟩, Lib.hid (Below.refl _ _)⟩
   case round =>
    clear HO7 HF7
    obtain ⟨j, C, o, rfl, rfl, hj, hC0, hC1, hO, hF, hB⟩ := hrel
    obtain ⟨w8, rfl⟩ : ∃ w', w' = wr := ⟨wr, rfl⟩
    have hb8 := hB.out
    have hz8 := hb8.size
    have q0b : w8.cell? ⟨w.heap.size, 0, none⟩ = some (.int .i64 s) := bwc hb8; have q1b : w8.cell? ⟨w.heap.size, 1, none⟩ = some (.slice (some ⟨b1, o1, none⟩) n1 c1) := bwc hb8; have r0b : w8.cell? ⟨w.heap.size + 1, 0, none⟩ = some (.int .i64 t) := bwc hb8; have r1b : w8.cell? ⟨w.heap.size + 1, 1, none⟩ = some (.slice (a2) n2 c2) := bwc hb8; have z0b : w8.cell? ⟨w.heap.size + 1 + 1, 0, none⟩ = some (.int .i64 0) := bwc hb8; have z1b : w8.cell? ⟨w.heap.size + 1 + 1, 1, none⟩ = some (.slice none 0 0) := bwc hb8; have f0b : w8.frozen? ⟨w.heap.size + 1 + 1, 0, none⟩ = false := bwf hb8; have f1b : w8.frozen? ⟨w.heap.size + 1 + 1, 1, none⟩ = false := bwf hb8; have l0b : w.heap.size + 1 + 1 < w8.heap.size := by { omega }
    have HB8 := Lib.hid hB.out
    have HO8 := Lib.hid hO.out
    have HF8 := Lib.hid hF.out
    clear q0a q1a r0a r1a z0a z1a f0a f1a l0a hb8 hO hF hB hck7
    rcases Nat.lt_or_ge j n2 with hj1 | hj1
    ·obtain ⟨b2, o2, rfl, hb2, hc2⟩ := H2.out.addr (by omega)
     obtain ⟨X, hX⟩ : ∃ X, X = o.getD (k + j) 0 := ⟨_, rfl⟩
     obtain ⟨Y, hY⟩ : ∃ Y, Y = l2.getD j 0 := ⟨_, rfl⟩
     have bX : 0 ≤ X ∧ X ≤ 999999999 := by rw [hX]; exact HF8.out.2.1.get _
     have bY : 0 ≤ Y ∧ Y ≤ 999999999 := by rw [hY]; exact D2.out.get j
     have cA : w8.cell? ⟨b1, o1 + k, none⟩ = some (.int .i64 A) := by rw [cellB HB8.out _ _ (by omega)]; exact HCA.out _ (Below.refl _ _)
     have cY : w8.cell? ⟨b2, o2 + j, none⟩ = some (.int .i64 Y) := by
      rw [cellB HB8.out _ _ (by omega), cellB HB7.out _ _ (by omega), cellB HB6.out _ _ hb2, hY]; exact hc2 j hj1
     have cX : w8.cell? ⟨w.heap.size + 1 + 1 + 1, k + j, none⟩ = some (.int .i64 X) := by
      rw [HO8.out.cellAt (k + j) (by omega), icells_get (by rw [HF8.out.1]; omega), ← hX]
     have fX : w8.frozen? ⟨w.heap.size + 1 + 1 + 1, k + j, none⟩ = false := HO8.out.frozenAt (k + j)
     obtain ⟨s0, s1, c0, c1', m0, m1, ab0, ab1⟩ := mul_carry bX bA bY ⟨hC0, hC1⟩
     have HN := Lib.hid (mul_digit o l2 k j A C _ (by rw [HF8.out.1]; omega) HF8.out.2.2.1 (by rw [H2.out.len]; exact hj1))
     rw [← hX, ← hY] at HN
     have l8 : w.heap.size + 1 + 1 + 1 < w8.heap.size := by omega
     have ij0 : (0 : Int) ≤ (k : Int) + (j : Int) := by omega
     have ij1 : (k : Int) + (j : Int) ≤ 990001 := by omega
     have wij : IntKind.i64.wrap ((k : Int) + (j : Int)) = (k : Int) + (j : Int) := IntWalk.i64_in _ (by omega)
     have tij : ((k : Int) + (j : Int)).toNat = k + j := by omega
     have wm : IntKind.i64.wrap (A * Y) = A * Y := IntWalk.i64_in _ (by omega)
     have ws1 : IntKind.i64.wrap (X + A * Y) = X + A * Y := IntWalk.i64_in _ (by omega)
     have ws2 : IntKind.i64.wrap (X + A * Y + C) = X + A * Y + C := IntWalk.i64_in _ (by omega)
     have j0 : (0 : Int) ≤ (j : Int) := by omega
     have j1 : (j : Int) < (n2 : Int) := by omega
     have j2 : (k : Int) + (j : Int) < (n1 : Int) + (n2 : Int) + 1 := by omega
     clear hX hY hc2
     go_wp2
     go_quiet (fail)
     go_wp2
     go_roundw
     case rel =>
      refine ⟨j + 1, _, _, by go_num, rfl, by omega, c0, c1', ?_, Lib.hid ⟨by rw [List.length_set]; exact HF8.out.1, HF8.out.2.1.set (k + j) m0 m1, HN.out, fun i hi => by rw [getD_setW_ne _ _ _ _ (by omega)]; exact HF8.out.2.2.2 i hi⟩, Lib.hid ?_⟩
      ·have := (World.ownsRow.stored (owns_drewN HO8.out nq) (k + j) (.int .i64 ((X + A * Y + C) % 1000000000))).1
       rw [icells_set'] at this
       exact Lib.hid this
      ·exact (HB8.out.drewN nq).setCell (by simp) _
     case measure => simp [intOf]; omega
    ·obtain rfl : j = n2 := by omega
     have cX : w8.cell? ⟨w.heap.size + 1 + 1 + 1, k + j, none⟩ = some (.int .i64 0) := by
      rw [HO8.out.cellAt (k + j) (by omega), icells_get (by rw [HF8.out.1]; omega), HF8.out.2.2.2 _ (Nat.le_refl _)]
     have fX : w8.frozen? ⟨w.heap.size + 1 + 1 + 1, k + j, none⟩ = false := HO8.out.frozenAt (k + j)
     have HN := Lib.hid (mul_row o l1 l2 k C (by rw [H1.out.len]; exact hk1) (by rw [HF8.out.1, H2.out.len]; omega) (by rw [H2.out.len]; exact HF8.out.2.2.2 _ (Nat.le_refl _)) (by rw [H2.out.len, ← HA.out]; exact HF8.out.2.2.1))
     rw [H2.out.len, Int.zero_add] at HN
     have l8 : w.heap.size + 1 + 1 + 1 < w8.heap.size := by omega
     have ij0 : (0 : Int) ≤ (k : Int) + (j : Int) := by omega
     have wij : IntKind.i64.wrap ((k : Int) + (j : Int)) = (k : Int) + (j : Int) := IntWalk.i64_in _ (by omega)
     have tij : ((k : Int) + (j : Int)).toNat = k + j := by omega
     have j2 : (k : Int) + (j : Int) < (n1 : Int) + (j : Int) + 1 := by omega
     have l0 : w.heap.size + 1 < w8.heap.size := by omega
     go_wp2
     refine wp_region_laterZ (B := w8.heap.size) [0, 1, 2, 3, 4, 5, 6, 7, 8, 9, 10, 11, 12, 13, 14, 15, 16] [17] 17 (by kernel_rfl) (by kernel_rfl) ?_; simp only [List.filterMap_cons, List.filterMap_nil, List.getElem?_cons_zero, List.getElem?_cons_succ]; repeat (show wpQuiet _ _ _ _ (_ :: _) _; go_big_quiet_step (fail))
     refine wpQuiet_nil ?_
     refine tailZ_last ?_
     go_wp2_with fail
     refine tailZ_end ?_
     go_wp2
     go_roundw
     case rel =>
      refine ⟨k + 1, by go_num, by omega, ⟨_, ?_, Lib.hid ⟨by rw [List.length_set]; exact HF8.out.1, HF8.out.2.1.set (k + j) hC0 hC1, HN.out, fun i hi => by rw [getD_setW_ne _ _ _ _ (by omega)]; exact HF8.out.2.2.2 i (by omega)⟩⟩, Lib.hid ?_⟩
      ·have := (World.ownsRow.stored HO8.out.drew (k + j) (.int .i64 C)).1
       rw [icells_set'] at this
       exact Lib.hid this
      ·exact (HB7.out.trans HB8.out).drew.setCell (by simp) _
     case measure => simp [intOf]; omega
  ·obtain rfl : k = n1 := by omega
   have HV := Lib.hid (show dval o = dval l1 * dval l2 by
    have := HF7.out.2.2.1
    rw [List.take_of_length_le (by rw [H1.out.len]; omega)] at this
    exact this)
   have HW := Lib.hid (HWO.out w7 o _ _ _ (SlR.of_owns HO7.out) HF7.out.2.1 (Nat.le_refl _) HV.out (fun b o' h0 ha => owns_ge HO7.out h0 ha))
   have HBA := Lib.hid (HB6.out.trans (HB7.out.mono (by omega)))
   go_wp2_with fail
   refine HW.out.mono ?_
   rintro e9 w9 ⟨v9, rfl, hb9, hW9⟩
   obtain ⟨a9, n9, c9, l9, rfl, hR⟩ := hW9
   have HR := Lib.hid hR
   have hz9 := hb9.size
   have z0 : w9.cell? ⟨w.heap.size + 1 + 1, 0, none⟩ = some (.int .i64 0) := bwc hb9; have z1 : w9.cell? ⟨w.heap.size + 1 + 1, 1, none⟩ = some (.slice none 0 0) := bwc hb9; have f0 : w9.frozen? ⟨w.heap.size + 1 + 1, 0, none⟩ = false := bwf hb9; have f1 : w9.frozen? ⟨w.heap.size + 1 + 1, 1, none⟩ = false := bwf hb9
   have HB9 := Lib.hid (HBA.out.trans (hb9.mono (by omega)))
   clear hb9 hR HW
   obtain ⟨sg, hsg⟩ : ∃ sg, sg = (x * y).sign := ⟨_, rfl⟩
   have HSG := Lib.hid hsg
   rw [← hsg]
   clear hsg
   go_wp2
   refine bodyPost_ret (v := .agg #[.int .i64 sg, .slice a9 n9 c9]) (by simp [results, Tryz.results145, go_sem, *]) rfl ⟨_, rfl, ((HB9.out.setCell (by simp; omega) _).setCell (by simp; omega) _), ?_⟩
   exact WideR.mono (p := fun b => w.heap.size + 3 ≤ b) (WideR.kept (w := w9) ⟨a9, n9, c9, l9, by rw [HSG.out], HR.out⟩ (by simp) (fun b hb => by rw [Go.Deep.blk_setCell_other _ _ _ _ (by simp; omega), Go.Deep.blk_setCell_other _ _ _ _ (by simp; omega)])) (fun b hb => by omega)
end Go.Proofs.YtdjinmieogpgcaaGreat
