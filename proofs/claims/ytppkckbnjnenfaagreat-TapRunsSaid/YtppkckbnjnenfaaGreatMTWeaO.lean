import Derived.Test.YtppkckbnjnenfaaGreatMTReaR
/- Wear: the program. -/
namespace Go.Proofs.YtppkckbnjnenfaaGreat
open Go.RowKit Go.Shelf
set_option linter.unusedVariables false
set_option linter.unusedSimpArgs false
attribute [local go_sem] Oper.semAt_some
theorem slr_of_blkW {w : World} {b t n sz : Nat} {cs : Array Value} (h : w.heap[b]? = some (.cells cs t)) (hl : cs.size = n * sz) (hn : n ≤ maxLen) : SlR w (some ⟨b, 0, none⟩) n sz cs.toList := by
 refine ⟨by simpa using hl, hn, fun _ => ⟨b, 0, rfl, (Array.getElem?_eq_some_iff.1 h).1, fun i u hu => ?_⟩⟩
 rw [Nat.zero_add, cell_of_row _ _ _ _ _ _ h]
 simpa using hu
theorem firstAt_hit {f : Nat → Int} {k : Nat} (hf : f k ≠ 0) : ∀ m j, j ≤ k → k < j + m → (∀ i, j ≤ i → i < k → f i = 0) → firstAt f m j = ((k : Int), f k)
 | 0, j, h1, h2, _ => by omega
 | m + 1, j, h1, h2, h => by
  unfold firstAt
  by_cases hj : j = k
  ·subst hj; rw [if_pos hf]
  ·rw [if_neg (by rw [h j (Nat.le_refl _) (by omega)]; exact fun h => h rfl)]
   exact firstAt_hit hf m (j + 1) (by omega) (by omega) (fun i h3 h4 => h i (by omega) h4)
theorem sq_bd {a : Int} (h0 : 0 ≤ a) (h1 : a ≤ 1000000000) : 0 ≤ a * a ∧ a * a ≤ 1000000000000000000 := ⟨Int.mul_nonneg h0 h0, Int.le_trans (Int.mul_le_mul h1 h1 h0 (by decide)) (by decide)⟩
theorem bfield0 (a b c d : Int) (w : World) : (Instr.field 150 (.agg #[.int .i64 a, .int .i64 b, .int .i64 c, .int .i64 d]) 0).run Tryz.prog w = .ok (.agg #[.int .i64 a, .int .i64 b]) w := by kernel_rfl
attribute [local go_sem] bfield0
set_option maxHeartbeats 4000000 in
set_option maxRecDepth 100000 in
theorem wearOf_any (m : Mac) (l : Lim) (c : List Int) (load : Int) (ac ab ag : Option Addr) (n cc nb cb ng cg : Nat) (w : World) (hb : BrR w ab nb m.br) (hg : GrR w ag ng m.gs) (hc : IntsR w ac n c) :
    Calls Tryz.prog 34 #[.agg #[.slice ab nb cb, .int .i64 m.st, .slice ag ng cg], .agg #[.int .i64 l.volt, .int .i64 l.lo, .int .i64 l.hi, .int .i64 l.circ, .int .i64 l.brk, .int .i64 l.ret], .slice ac n cc, .int .i64 load] w
     fun e' w' => ∃ a' n' c', e' = .returned (.tuple #[.slice a' n' c', .int .i64 (weaX m l c load).1, .int .i64 (weaX m l c load).2]) ∧ Below w.heap.size w w' ∧ PairsR w' a' n' (weaV m l c load) := by
 have HO := Lib.hid (fun (W : World) (hbw : Below w.heap.size w W) => open6_any m l ab ag nb cb ng cg W (hb.below hbw) (hg.below hbw))
 have HRU := Lib.hid (fun (h : opnE m l = 0) (W : World) (hbw : Below w.heap.size w W) => run_any m l c ac ab ag n cc nb cb ng cg W (opnE_zero h).1 (opnE_zero h).2 (hb.below hbw) (hg.below hbw) (hc.below hbw))
 have HLO := Lib.hid (fun (W : World) => loadE_any load W)
 have hX : weaX m l c load = if opnE m l ≠ 0 then (0, opnE m l) else if (runX m l c).2 ≠ 0 then runX m l c else if loaE load ≠ 0 then (0, loaE load) else (0, (firstAt (weE m l c load) c.length 0).2) := rfl
 have hV : weaV m l c load = if (weaX m l c load).2 ≠ 0 then [] else (weQ m l c load c.length).map frR := rfl
 rw [show firstErr [(macE m).2, limE l] = opnE m l from rfl] at HO
 obtain ⟨X, hXX⟩ : ∃ X, X = weaX m l c load := ⟨_, rfl⟩
 rw [← hXX] at hX hV ⊢
 generalize weaV m l c load = V at *
 generalize hE : opnE m l = E at *
 generalize hRX : runX m l c = RX at *
 generalize hLE : loaE load = LE at *
 have HE := Lib.hid hE
 have HRX := Lib.hid hRX
 have HLE := Lib.hid hLE
 obtain ⟨XI, XE⟩ := X
 obtain ⟨RI, RE⟩ := RX
 have HX := Lib.hid hX
 have HV := Lib.hid hV
 have HBB := Lib.hid hb
 have HCC := Lib.hid hc
 obtain ⟨L, hL⟩ : ∃ L, L = l := ⟨_, rfl⟩
 have HL := Lib.hid hL
 obtain ⟨vo, lo, hi, ci, br, re⟩ := l
 obtain ⟨st, hst⟩ : ∃ x, x = m.st := ⟨_, rfl⟩
 rw [← hst] at HO HRU ⊢
 have HST := Lib.hid hst.symm
 simp only at HO HRU ⊢
 clear hb hg hc hst hX hV hE hRX hLE hXX hL
 go_enter Tryz.func34, Tryz.ntmps34
 go_wp2_with fail
 refine (HO.out _ (by (first|exact bwg|go_size))).mono ?_
 rintro e5 w5 ⟨rfl, hb5⟩
 have HB5 := Lib.hid (show Below w.heap.size w w5 by (first|exact bwg|go_size))
 clear hb5 HO
 by_cases h0 : E = 0
 rotate_left
 ·have e1 := bne_iff_ne.2 h0
  have hx1 := HX.out
  rw [if_pos h0] at hx1
  injection hx1 with hx1 hx2
  have hv1 := HV.out
  rw [if_pos (by rw [hx2]; exact h0)] at hv1
  clear HX HV HRU
  go_wp2
  go_ret3
  obtain rfl : XI = 0 := hx1
  obtain rfl : XE = E := hx2
  exact ⟨none, 0, 0, rfl, HB5.out.alloc HB5.out.size _, by rw [hv1]; exact SlR.nil _ _ _⟩
 ·subst h0
  have hx1 := HX.out
  rw [if_neg (by simp)] at hx1
  have HX := Lib.hid hx1
  have HRW := Lib.hid (HRU.out rfl)
  have hz := opnE_zero HE.out
  have HMV := Lib.hid hz.1
  have HLZ := Lib.hid hz.2
  have HLN := Lib.hid HBB.out.len
  have hn6 : nb ≤ 6 := by rw [← HLN.out]; exact hz.1.n1
  have hn0 : 1 ≤ nb := by rw [← HLN.out]; exact hz.1.n0
  clear hz
  have HRP := Lib.hid (fun (bx : Nat) (W : World) (hx : W.heap[bx]? = some (.cells #[.int .i64 0, .int .i64 1] 107)) => repeat_any 0 1 nb bx 1 W hn0 (by omega) hx)
  clear hx1 HRU
  obtain ⟨w6, hW⟩ : ∃ w6, w6 = w5.alloc (Obj.cells #[.slice ab nb cb, .int .i64 st, .slice ag ng cg, .int .i64 vo, .int .i64 lo, .int .i64 hi, .int .i64 ci, .int .i64 br, .int .i64 re] 120) := ⟨_, rfl⟩
  have hb6 : Below w5.heap.size w5 w6 := by rw [hW]; (first|exact bwg|go_size)
  have k6 : BlkR w6 w5.heap.size (.cells #[.slice ab nb cb, .int .i64 st, .slice ag ng cg, .int .i64 vo, .int .i64 lo, .int .i64 hi, .int .i64 ci, .int .i64 br, .int .i64 re] 120) := by show w6.heap[w5.heap.size]? = _; rw [hW]; exact heap_alloc_new _ _
  have HB6 := bwt HB5 hb6
  obtain ⟨X6, hX6⟩ : ∃ X, X = w5.heap.size := ⟨_, rfl⟩
  rw [← hX6] at k6
  have K6 := Lib.hid k6
  clear hb6 k6
  go_wp2_with fail
  rw [← hW]
  simp only [← hX6]
  clear hW hX6
  refine (HRW.out _ HB6.out).mono ?_
  rintro e7 w7 ⟨a7, n7, c7, rfl, hb7, hi7⟩
  have HI7 := Lib.hid hi7
  have K7 := Lib.hid (K6.out.below hb7)
  have HB7 := bwt HB6 hb7
  clear hb7 hi7 HRW K6 HB6
  by_cases h1 : RE = 0
  rotate_left
  ·have e1 := bne_iff_ne.2 h1
   have hx1 := HX.out
   rw [if_pos (by exact h1)] at hx1
   injection hx1 with hx1 hx2
   have hv1 := HV.out
   rw [if_pos (by rw [hx2]; exact h1)] at hv1
   clear HX HV
   go_wp2
   go_ret3
   obtain rfl : XI = RI := hx1
   obtain rfl : XE = RE := hx2
   exact ⟨none, 0, 0, rfl, HB7.out, by rw [hv1]; exact SlR.nil _ _ _⟩
  ·subst h1
   have hx1 := HX.out
   rw [if_neg (by exact fun h => h rfl)] at hx1
   have HX := Lib.hid hx1
   clear hx1
   have HOK := Lib.hid (run_ok (m := m) (l := L) (c := c) (by rw [HL.out, HRX.out]))
   by_cases h2 : LE = 0
   rotate_left
   ·have e1 := bne_iff_ne.2 h2
    have hx1 := HX.out
    rw [if_pos h2] at hx1
    injection hx1 with hx1 hx2
    have hv1 := HV.out
    rw [if_pos (by rw [hx2]; exact h2)] at hv1
    clear HX HV
    go_wp2_with fail
    refine (HLO.out _).mono ?_
    rintro e8 w8 ⟨rfl, rfl⟩
    go_wp2
    go_ret3
    obtain rfl : XI = 0 := hx1
    obtain rfl : XE = LE := hx2
    exact ⟨none, 0, 0, rfl, HB7.out, by rw [hv1]; exact SlR.nil _ _ _⟩
   ·subst h2
    have hx1 := HX.out
    rw [if_neg (by exact fun h => h rfl)] at hx1
    have HX := Lib.hid hx1
    have HLD := Lib.hid (loaE_zero.1 HLE.out)
    clear hx1
    go_wp2_with fail
    refine (HLO.out _).mono ?_
    rintro e8 w8 ⟨rfl, rfl⟩
    obtain ⟨c7, c7_1, c7_2, c7_3, c7_4, c7_5, c7_6, c7_7, c7_8, l7⟩ := blkc9 K7.out
    go_wp2_with fail
    refine wp_region_mixZ (B := w7.heap.size) [(true, 2), (true, 3), (true, 4), (true, 5), (true, 6), (false, 0), (false, 1), (false, 7), (false, 8)] 8 (by kernel_rfl) (by kernel_rfl) ?_; simp only [opsOf, List.filterMap_cons, List.filterMap_nil, List.getElem?_toArray, List.getElem?_cons_zero, List.getElem?_cons_succ, Option.map_some]
    repeat (refine mixz_head ?_; (show wpQuiet _ _ _ _ (_ :: _) _; go_big_quiet_step (fail)); refine wpQuiet_nil ?_)
    refine mixz_tail ?_; go_wp2_with fail
    refine (t_whole_any 0 _).mono ?_
    rintro e9 w9 ⟨rfl, hb9⟩
    have HY9 := Lib.hid (show Below w7.heap.size w7 w9 from (Below.refl _ _).drew.trans hb9)
    clear hb9
    go_wp2_with fail
    refine tailL_mk HY9.out ?_
    refine mixz_tail ?_; go_wp2_with fail
    refine tailL_mk (HY9.out.alloc HY9.out.size _) ?_
    refine mixz_tail ?_; go_wp2_with fail
    refine (HRP.out w9.heap.size _ (heap_alloc_new _ _)).mono ?_
    rintro e10 w10 ⟨g, rfl, hg0, hg1, hb10⟩
    have HY10 := Lib.hid (show Below w7.heap.size w7 w10 from (HY9.out.alloc HY9.out.size _).trans (hb10.mono (HY9.out.alloc HY9.out.size _).size))
    have HGB := Lib.hid (show w7.heap.size ≤ g from Nat.le_trans (HY9.out.alloc HY9.out.size _).size hg0)
    have HG := Lib.hid (show BlkR w10 g (.cells (frs 0 1 nb 0).toArray 107) from hg1)
    clear hg0 hg1 hb10 HY9
    go_wp2_with fail
    refine tailL_mk HY10.out ?_
    refine mixz_last ?_; go_wp2_with fail
    refine tailZ_end ?_
    clear c7 c7_1 c7_2 c7_3 c7_4 c7_5 c7_6 c7_7 c7_8 l7
    go_wp2_with fail
    have HCL := Lib.hid HCC.out.len
    have HR0 := Lib.hid (show (frs 0 1 nb 0).toArray = (pcells ((weQ m L c load 0).map frR)).toArray from by rw [frs_wear nb]; unfold weQ; rw [HLN.out])
    have HVS := Lib.hid (show runV m L c = runL m c n from by rw [← HCL.out]; exact runV_ok (by rw [HL.out, HRX.out]))
    have HI7 := Lib.hid (show IntsR w7 a7 n7 (nats (runL m c n)) from by rw [← HVS.out, HL.out]; exact HI7.out)
    have HN7 := Lib.hid (show n7 = n + 1 from by have h := HI7.out.len; simp [nats, runL] at h; omega)
    have hn40 : n ≤ 40 := by have h := HOK.out.1; rw [HCL.out] at h; exact h
    go_loopw [55] (fun x wr => ∃ k : Nat, x = .int .i64 (k : Int) ∧ k ≤ n ∧ Hid (∀ j, j < k → weE m L c load j = 0) ∧ Hid (BlkR wr g (.cells (pcells ((weQ m L c load k).map frR)).toArray 107)) ∧ Hid (Below w7.heap.size w7 wr)) (fun x _ => n - (intOf x).toNat)
    case atStart => exact ⟨0, rfl, by omega, Lib.hid (fun j h => absurd h (by omega)), Lib.hid (by rw [← HR0.out]; exact HG.out), HY10⟩
    case round =>
     obtain ⟨k, rfl, hk, HWE, HRO, HBr⟩ := hrel
     have i0 : (0 : Int) ≤ (k : Int) := by omega
     have HBw := bwt HB7 HBr.out
     have K8 := Lib.hid (K7.out.below HBr.out)
     have HI8 := Lib.hid (HI7.out.below HBr.out)
     have HC8 := Lib.hid (HCC.out.below HBw.out)
     by_cases hlt : k < n
     ·have i1 : (k : Int) < (n : Int) := by omega
      obtain ⟨bq, oq, rfl, hbq, hca⟩ := HC8.out.addr (by omega)
      have hcl := hca k hlt
      clear hca
      generalize hx : c.getD k 0 = x at hcl
      have HGX := Lib.hid hx
      clear hx
      obtain ⟨bs, os, rfl, hbs, hsa⟩ := HI8.out.addr (by rw [HN7.out]; omega)
      have hsc := hsa k (by rw [HN7.out]; omega)
      rw [runL_get m c (by omega)] at hsc
      have i2 : (k : Int) < (n7 : Int) := by have := HN7.out; omega
      clear hsa
      obtain ⟨hck1, hck2⟩ := HOK.out.2.2 k (by rw [HCL.out]; exact hlt)
      rw [HGX.out] at hck1 hck2
      rw [HLN.out] at hck1
      obtain ⟨xn, rfl, hxn⟩ : ∃ xn : Nat, x = (xn : Int) ∧ xn < nb := by have := conE_zero.1 hck1; exact ⟨x.toNat, by omega, by omega⟩
      rw [Int.toNat_natCast] at hck2
      have hsN : runS m c k < 2 ^ m.br.length := runS_lt HMV.out k (fun j hj => (HOK.out.2.2 j (by rw [HCL.out]; omega)).1)
      have HSN := Lib.hid hsN
      have HCK := Lib.hid hck2
      have HHA := Lib.hid (fun W => has_any (runS m c k) xn W (Nat.lt_of_lt_of_le hsN (Nat.le_trans (Nat.pow_le_pow_right (by omega) HMV.out.n1) (by decide))) (by omega))
      have HWQ := Lib.hid (show weQ m L c load (k + 1) = if (runS m c k).testBit xn = true then (weQ m L c load k).set xn ((weQ m L c load k).getD xn 0 + weZ m L c load k * weZ m L c load k) else weQ m L c load k from by show (if weB m c k = true then _ else _) = _; unfold weB; rw [HGX.out]; rfl)
      have HWK := Lib.hid (show weE m L c load k = if (runS m c k).testBit xn = false then 0 else if smallQ (weZ m L c load k * weZ m L c load k) = false then 8 else if smallQ ((weQ m L c load k).getD xn 0 + weZ m L c load k * weZ m L c load k) = false then 8 else 0 from by unfold weE weB; rw [HGX.out]; rfl)
      have HWZ := Lib.hid (show weZ m L c load k = zQ m L (runS m c k) load xn from by unfold weZ; rw [HGX.out]; rfl)
      clear hck1 hck2 hsN
      generalize htb : (runS m c k).testBit xn = TB at *
      have HTB := Lib.hid htb
      clear htb
      go_wp2_with fail
      refine (HHA.out _).mono ?_
      rintro e11 w11 ⟨rfl, rfl⟩
      cases TB
      ·have HW1 := Lib.hid (HWQ.out.trans (if_neg (by decide)))
       have HW2 := Lib.hid (HWK.out.trans (if_pos rfl))
       clear HWQ HWK
       go_wp2
       refine ⟨⟨k + 1, by go_num, by omega, Lib.hid (fun j hj => by
        by_cases hjk : j = k
        ·subst hjk; exact HW2.out
        ·exact HWE.out j (by omega)), Lib.hid (by rw [HW1.out]; exact HRO.out), HBr⟩, ?_⟩
       simp only [intOf]; omega
      ·have HW1 := Lib.hid (HWQ.out.trans (if_pos rfl))
       have HW2 := Lib.hid (HWK.out.trans (if_neg (by decide)))
       clear HWQ HWK
       obtain ⟨hel1, hel2, hcu1, hcu2⟩ := we_ok (load := load) HMV.out (by rw [HL.out]; exact HLZ.out) HLD.out HSN.out (by rw [HLN.out]; exact hxn) HCK.out
       have HBK := Lib.hid (fun (W : World) (hbw : Below w7.heap.size w7 W) => breaks_any m L (runS m c k) xn load ab ag nb cb ng cg W (HBB.out.below (HB7.out.trans (hbw.mono HB7.out.size))) hel1 hel2 hxn)
       have HSQ := Lib.hid (brk_sq hel1 (by rw [HLN.out]; exact hxn))
       have HSB0 := Lib.hid (show (0 ≤ (brkC m L (runS m c k) xn load).1 ∧ (brkC m L (runS m c k) xn load).1 ≤ 1000000000) ∧ (0 < (brkC m L (runS m c k) xn load).2 ∧ (brkC m L (runS m c k) xn load).2 ≤ 1000000000) from by
        have h := curT_bd hel1 (k := xn) (by rw [HLN.out]; exact hxn)
        unfold brkC sz
        simp only
        omega)
       have HBD := Lib.hid (brkC_bd hel1 (by rw [HLN.out]; exact hxn))
       clear hel1 hel2 hcu1 hcu2
       have hbc : brkC m ⟨vo, lo, hi, ci, br, re⟩ (runS m c k) xn load = brkC m L (runS m c k) xn load := by rw [HL.out]
       have hbv : brkV m ⟨vo, lo, hi, ci, br, re⟩ (runS m c k) xn load = brkV m L (runS m c k) xn load := by rw [HL.out]
       rw [HST.out, HL.out] at HBK
       simp only [hbc, hbv] at HBK
       clear hbc hbv
       generalize brkC m L (runS m c k) xn load = BC at *
       generalize brkV m L (runS m c k) xn load = BV at *
       obtain ⟨C1, C2⟩ := BC
       obtain ⟨V1, V2⟩ := BV
       simp only at HBK HSQ HBD
       obtain ⟨c8, c8_1, c8_2, c8_3, c8_4, c8_5, c8_6, c8_7, c8_8, l8⟩ := blkc9 K8.out
       have HSB := Lib.hid (show (0 ≤ C1 * C1 ∧ C1 * C1 ≤ 9000000000000000000) ∧ (0 < C2 * C2 ∧ C2 * C2 ≤ 9000000000000000000) from by
        have h := HSB0.out
        have h1 : 0 ≤ C1 * C1 ∧ C1 * C1 ≤ 1000000000000000000 := sq_bd h.1.1 h.1.2
        have h2 : 0 ≤ C2 * C2 ∧ C2 * C2 ≤ 1000000000000000000 := sq_bd (Int.le_of_lt h.2.1) h.2.2
        exact ⟨⟨h1.1, Int.le_trans h1.2 (by decide)⟩, Int.mul_pos h.2.1 h.2.1, Int.le_trans h2.2 (by decide)⟩)
       have HBx := HBr
       have HBL := HBK
       clear HBK
       go_wp2_with fail
       go_cut [18] from 67 to 77 (fun v18 wx => ∃ X9 : Nat, v18 = .pointer (some ⟨X9, 0, none⟩) ∧ Hid (BlkR wx X9 (.cells #[.int .i64 C1, .int .i64 C2] 107)) ∧ Hid (Below wr.heap.size wr wx))
       case first =>
        have HN := Lib.hid (Below.refl wr.heap.size wr).drew
        refine wp_region_laterT (B := wr.heap.size) (.head 0 (.head 1 (.head 2 (.head 3 (.head 4 (.head 5 (.head 6 (.two 7 (.head 8 (.one 9 (.one 10 .done))) 9 (.one 7 (.head 8 (.one 10 .done))))))))))) (by kernel_rfl) (by kernel_rfl) ?_
        repeat (refine tree_head rfl ?_; (show wpQuiet _ _ _ _ (_ :: _) _; go_big_quiet_step (fail)); refine wpQuiet_nil ?_)
        refine tree_two rfl rfl ?_ ?_
        ·go_wp2_with fail
         refine (HBL.out _ (HBx.out.trans (HN.out.mono HBx.out.size))).mono ?_
         rintro e11 wx1 ⟨rfl, hbx⟩
         have hzx := hbx.size
         have HN := bwt HN hbx
         clear hbx
         go_wp2_with fail
         refine tailL_mk HN.out ?_
         repeat (refine tree_head rfl ?_; (show wpQuiet _ _ _ _ (_ :: _) _; go_big_quiet_step (fail)); refine wpQuiet_nil ?_)
         refine tree_one rfl ?_
         go_wp2_with fail
         obtain ⟨X9, hX9, hNX, hx9, l9, hs9, hbx⟩ := xal HN.out (Obj.cells #[.int .i64 0, .int .i64 0] 107)
         try simp only [← hX9]
         generalize (wx1.alloc (Obj.cells #[.int .i64 0, .int .i64 0] 107)) = wx2 at *
         have HX9 := Lib.hid (And.intro hX9 hs9)
         have HN := bwt HN hbx
         clear hbx hX9 hs9
         refine tailL_mk HN.out ?_
         refine tree_one rfl ?_
         obtain ⟨c90, c91, f90, f91⟩ := xcf2 hx9
         go_wp2_with fail
         have hq9 := xst2 HN.out hNX hx9 (.int .i64 C1) (.int .i64 C2)
         have HN := Lib.hid hq9.1
         have hxo := hx9
         have hx9 := hq9.2
         clear hq9
         refine tailL_mk HN.out ?_
         refine tree_done ?_
         go_wp2_with fail
         go_meet
         case rel => exact ⟨X9, rfl, Lib.hid hx9, HN⟩
        ·go_wp2_with fail
         obtain ⟨X9, hX9, hNX, hx9, l9, hs9, hbx, hbd⟩ := xald HN.out (Obj.cells #[.int .i64 0, .int .i64 0] 107)
         try simp only [← hX9]
         generalize (wr.alloc (Obj.cells #[.int .i64 0, .int .i64 0] 107)).drew = wx4 at *
         have HX9 := Lib.hid (And.intro hX9 hs9)
         have HN := Lib.hid hbx
         clear hbx hX9 hs9 hbd
         refine tailL_mk HN.out ?_
         refine tree_one rfl ?_
         go_wp2_with fail
         refine (HBL.out _ (HBx.out.trans (HN.out.mono HBx.out.size))).mono ?_
         rintro e11 wx5 ⟨rfl, hbx⟩
         have hzx := hbx.size
         have HN := bwt HN hbx
         have hx9 := (hbx.block X9 l9).trans hx9
         have l9 := Nat.lt_of_lt_of_le l9 hbx.size
         clear hbx
         go_wp2_with fail
         refine tailL_mk HN.out ?_
         repeat (refine tree_head rfl ?_; (show wpQuiet _ _ _ _ (_ :: _) _; go_big_quiet_step (fail)); refine wpQuiet_nil ?_)
         refine tree_one rfl ?_
         obtain ⟨c90, c91, f90, f91⟩ := xcf2 hx9
         go_wp2_with fail
         have hq9 := xst2 HN.out hNX hx9 (.int .i64 C1) (.int .i64 C2)
         have HN := Lib.hid hq9.1
         have hxo := hx9
         have hx9 := hq9.2
         clear hq9
         refine tailL_mk HN.out ?_
         refine tree_done ?_
         go_wp2_with fail
         go_meet
         case rel => exact ⟨X9, rfl, Lib.hid hx9, HN⟩
       case rest =>
        obtain ⟨wy, rfl⟩ : ∃ w', w' = wc := ⟨wc, rfl⟩
        obtain ⟨X9, rfl, K9, HQ7⟩ := hcut
        have hb7 := HQ7.out
        have HBy := bwt HBr hb7
        have HRy := Lib.hid (HRO.out.below hb7)
        have Ky := Lib.hid (K8.out.below hb7)
        have HIy := Lib.hid (HI8.out.below hb7)
        have HCy := Lib.hid (HC8.out.below hb7)
        have HBwy := bwt HBw hb7
        clear hb7 HQ7 hcl hsc c8 c8_1 c8_2 c8_3 c8_4 c8_5 c8_6 c8_7 c8_8 l8 HBx HBL HHA
        obtain ⟨y0, y1, l9⟩ := blkc2 K9.out
        have hsq1 : IntKind.i64.wrap (C1 * C1) = C1 * C1 := by have := HSB.out; rw [IntKind.wrap_i64]; omega
        have hsq2 : IntKind.i64.wrap (C2 * C2) = C2 * C2 := by have := HSB.out; rw [IntKind.wrap_i64]; omega
        have HSM := Lib.hid (fun (W : World) => t_isSmall_any (C1 * C1) (C2 * C2) W)
        have HSV := Lib.hid (show smallQ (weZ m L c load k * weZ m L c load k) = (wi (C1 * C1) (-1000000000) 1000000000 && decide (C2 * C2 ≤ 1000000000)) from by rw [HWZ.out, smallQ_frR, ← HSQ.out])
        rw [← HSV.out] at HSM
        generalize hsm : smallQ (weZ m L c load k * weZ m L c load k) = SM at *
        go_wp2_with fail
        refine (HSM.out _).mono ?_
        rintro e12 w12 ⟨rfl, hb12⟩
        have KS := Lib.hid (show BlkR w12 wy.heap.size (.cells #[.int .i64 (C1 * C1), .int .i64 (C2 * C2)] 107) from BlkR.below (show BlkR (wy.alloc (Obj.cells #[.int .i64 (C1 * C1), .int .i64 (C2 * C2)] 107)) wy.heap.size _ from heap_alloc_new _ _) hb12)
        have HY12 := Lib.hid (show Below wy.heap.size wy w12 from ((Below.refl _ _).alloc (Nat.le_refl _) _).trans (hb12.mono (by simp)))
        clear hb12 y0 y1 l9
        cases SM
        ·have HW3 := Lib.hid (HW2.out.trans (if_pos rfl))
         have hx1 := HX.out
         rw [← HL.out] at hx1
         rw [firstAt_hit (k := k) (by rw [HW3.out]; decide) c.length 0 (by omega) (by rw [HCL.out]; omega) (fun i _ hi => HWE.out i hi), HW3.out] at hx1
         injection hx1 with hx1 hx2
         have hv1 := HV.out
         rw [if_pos (by rw [hx2]; show (8 : Int) ≠ 0; decide)] at hv1
         have HBf := bwt HBwy HY12.out
         clear HX HV
         go_wp2
         go_ret3
         obtain rfl : XI = 0 := hx1
         obtain rfl : XE = 8 := hx2
         first | exact ⟨none, 0, 0, rfl, HBf.out, by rw [hv1]; exact SlR.nil _ _ _⟩ | exact ⟨none, 0, ⟨0, rfl⟩, HBf.out, by first | exact SlR.nil _ _ _ | (rw [hv1]; exact SlR.nil _ _ _)⟩
        ·have HW3 := Lib.hid (HW2.out.trans (if_neg (by decide)))
         have hsv := HSV.out.symm
         rw [Bool.and_eq_true, wi_iff, decide_eq_true_eq] at hsv
         obtain ⟨⟨hs1, hs2⟩, hs3⟩ := hsv
         have hqs := weQ_small (m := m) (l := L) (c := c) (load := load) HWE.out xn
         rw [smallQ_frR, Bool.and_eq_true, wi_iff, decide_eq_true_eq] at hqs
         have hz2 := HSQ.out
         rw [← HWZ.out] at hz2
         obtain ⟨hrl, hrg⟩ : ((weQ m L c load k).map frR).length = nb ∧ ((weQ m L c load k).map frR).getD xn (0, 0) = frR ((weQ m L c load k).getD xn 0) := by
          have hl := weQ_len m L c load k
          rw [HLN.out] at hl
          refine ⟨by rw [List.length_map]; exact hl, ?_⟩
          rw [List.getD_eq_getElem?_getD, List.getD_eq_getElem?_getD, List.getElem?_map, List.getElem?_eq_getElem (by omega)]
          rfl
         obtain ⟨pg0, pg1⟩ := pcells_get ((weQ m L c load k).map frR) xn (by rw [hrl]; exact hxn)
         rw [hrg] at pg0 pg1
         have hW1 := HW1.out
         generalize hQ : (weQ m L c load k).getD xn 0 = Q at *
         generalize hZ : weZ m L c load k * weZ m L c load k = ZZ at *
         have hfa := frR_add Q ZZ
         have e1 : ZZ.num = C1 * C1 := (congrArg Prod.fst hz2).symm
         have e2 : (ZZ.den : Int) = C2 * C2 := (congrArg Prod.snd hz2).symm
         rw [e1, e2] at hfa
         have hqd : (0 : Int) < Q.den := by have := Q.den_pos; omega
         have hqn : -1000000000 ≤ Q.num ∧ Q.num ≤ 1000000000 ∧ (Q.den : Int) ≤ 1000000000 := by
          unfold frR at hqs; exact ⟨hqs.1.1, hqs.1.2, hqs.2⟩
         have pgq : frR Q = (Q.num, (Q.den : Int)) := rfl
         rw [pgq] at pg0 pg1
         simp only at pg0 pg1
         have hsb := HSB.out
         generalize Q.num = O1 at *
         generalize (Q.den : Int) = O2 at *
         have HPL := Lib.hid (fun (W : World) => t_plus_any O1 O2 (C1 * C1) (C2 * C2) W
          (by
           have h : (O1 * (C2 * C2)).natAbs ≤ 1000000000 * 1000000000 := mulB (by omega) (by omega)
           generalize O1 * (C2 * C2) = x at *
           omega)
          (by
           have h : (C1 * C1 * O2).natAbs ≤ 1000000000 * 1000000000 := mulB (by omega) (by omega)
           generalize C1 * C1 * O2 = x at *
           omega)
          (Int.mul_pos hqd hsb.2.1)
          (by
           have h : (O2 * (C2 * C2)).natAbs ≤ 1000000000 * 1000000000 := mulB (by omega) (by omega)
           generalize O2 * (C2 * C2) = x at *
           omega))
         have HSX := Lib.hid (fun (W : World) => t_isSmall_any (frR (Q + ZZ)).1 (frR (Q + ZZ)).2 W)
         rw [← smallQ_frR] at HSX
         rw [← hfa] at HPL
         have hset : (pcells (((weQ m L c load k).map frR).set xn (frR (Q + ZZ)))).toArray = (pcells ((weQ m L c load (k + 1)).map frR)).toArray := by rw [hW1, List.map_set]
         have HSET := Lib.hid hset
         clear hset hfa hW1 e1 e2 hz2 pgq hsb hqn hqd hrg
         generalize hS2 : smallQ (Q + ZZ) = S2 at *
         generalize frR (Q + ZZ) = FR at *
         obtain ⟨R1, R2⟩ := FR
         simp only at HPL HSX HSET
         have HBy := bwt HBy HY12.out
         have HBwy := bwt HBwy HY12.out
         have HRy := Lib.hid (HRy.out.below HY12.out)
         have cg0 := cell_of_row _ _ (xn * 2) _ _ _ HRy.out
         have cg1 := cell_of_row _ _ (xn * 2 + 1) _ _ _ HRy.out
         rw [List.getElem?_toArray] at cg0 cg1
         rw [pg0] at cg0
         rw [pg1] at cg1
         have lg' := HRy.out.lt
         have j0 : (0 : Int) ≤ (xn : Int) := by omega
         have j1 : (xn : Int) < (nb : Int) := by omega
         obtain ⟨y0, y1, l9⟩ := blkc2 KS.out
         have HQ2 := Lib.hid hS2
         clear pg0 pg1 hs1 hs2 hs3 hqs hS2 hsq1 hsq2 HSM HSV HSQ
         go_wp2_with fail
         refine later_of_eq 9 (by kernel_rfl) (by kernel_rfl) ?_; simp only [List.take_succ_cons, List.take_zero, List.drop_succ_cons, List.drop_zero]; repeat go_big_quiet_step(first | (with_reducible exact calls_later (HPL.out _)))
         refine wpQuiet_nil ?_; intro w13 hb13
         have HBy := bwt HBy hb13
         have HBwy := bwt HBwy hb13
         have HRy := Lib.hid (HRy.out.below hb13)
         have cg0' : w13.cell? ⟨g, xn * 2, none⟩ = some (.int .i64 O1) := by rw [cellB hb13 _ _ lg']; exact cg0
         have cg1' : w13.cell? ⟨g, xn * 2 + 1, none⟩ = some (.int .i64 O2) := by rw [cellB hb13 _ _ lg']; exact cg1
         have fg0 := frozen_of_row _ _ (xn * 2) _ _ HRy.out
         have fg1 := frozen_of_row _ _ (xn * 2 + 1) _ _ HRy.out
         have lg2 := HRy.out.lt
         clear cg0 cg1 lg' y0 y1 l9 hb13
         go_wp2_with fail
         refine (HSX.out _).mono ?_
         rintro e14 w14 ⟨rfl, hb14⟩
         have kw := blk_pset HRy.out xn (R1, R2)
         rw [HSET.out] at kw
         have hgw : w.heap.size ≤ g := Nat.le_trans HB7.out.size HGB.out
         have hbz := (HBy.out.setCell (p := ⟨g, xn * 2, none⟩) HGB.out (.int .i64 R1)).setCell (p := ⟨g, xn * 2 + 1, none⟩) HGB.out (.int .i64 R2)
         have hbz2 := (HBwy.out.setCell (p := ⟨g, xn * 2, none⟩) hgw (.int .i64 R1)).setCell (p := ⟨g, xn * 2 + 1, none⟩) hgw (.int .i64 R2)
         have HK14 := Lib.hid (BlkR.below kw hb14)
         have HB14 := Lib.hid (hbz.trans (hb14.mono hbz.size))
         have HBf := Lib.hid (hbz2.trans (hb14.mono hbz2.size))
         clear kw hbz hbz2 hb14 hgw cg0' cg1' fg0 fg1 lg2
         cases S2
         ·have HW4 := Lib.hid (HW3.out.trans (if_pos rfl))
          have hx1 := HX.out
          rw [← HL.out] at hx1
          rw [firstAt_hit (k := k) (by rw [HW4.out]; decide) c.length 0 (by omega) (by rw [HCL.out]; omega) (fun i _ hi => HWE.out i hi), HW4.out] at hx1
          injection hx1 with hx1 hx2
          have hv1 := HV.out
          rw [if_pos (by rw [hx2]; show (8 : Int) ≠ 0; decide)] at hv1
          clear HX HV
          go_wp2
          go_ret3
          obtain rfl : XI = 0 := hx1
          obtain rfl : XE = 8 := hx2
          first | exact ⟨none, 0, 0, rfl, HBf.out, by rw [hv1]; exact SlR.nil _ _ _⟩ | exact ⟨none, 0, ⟨0, rfl⟩, HBf.out, by first | exact SlR.nil _ _ _ | (rw [hv1]; exact SlR.nil _ _ _)⟩
         ·have HW4 := Lib.hid (HW3.out.trans (if_neg (by decide)))
          go_wp2
          refine ⟨⟨k + 1, by go_num, by omega, Lib.hid (fun j hj => by
           by_cases hjk : j = k
           ·subst hjk; exact HW4.out
           ·exact HWE.out j (by omega)), HK14, HB14⟩, ?_⟩
          simp only [intOf]; omega
     ·obtain rfl : k = n := by omega
      have hx1 := HX.out
      rw [← HL.out] at hx1
      have hfa : (firstAt (weE m L c load) c.length 0).2 = 0 := by
       have key : ∀ q j, (∀ i, j ≤ i → i < j + q → weE m L c load i = 0) → (firstAt (weE m L c load) q j).2 = 0 := by
        intro q
        induction q with
        | zero => intro j _; rfl
        | succ q ih =>
         intro j h
         unfold firstAt
         rw [if_neg (by rw [h j (Nat.le_refl _) (by omega)]; exact fun h => h rfl)]
         exact ih (j + 1) (fun i h1 h2 => h i (by omega) (by omega))
       exact key _ _ (fun i _ hi => HWE.out i (by rw [HCL.out] at hi; omega))
      rw [hfa] at hx1
      injection hx1 with hx1 hx2
      have hv1 := HV.out
      rw [if_neg (by rw [hx2]; exact fun h => h rfl), ← HL.out, HCL.out] at hv1
      have hqs : nb = ((weQ m L c load k).map frR).length := by rw [List.length_map, weQ_len]; exact HLN.out.symm
      have HQS := Lib.hid hqs
      have HV1 := Lib.hid hv1
      have hbf := HBw.out
      have i1 : ¬ ((k : Int) < (k : Int)) := by omega
      clear HX HV hfa hqs hv1
      have hro := slr_of_blkW HRO.out (by simp only [List.size_toArray, pcells_length]; rw [← HQS.out]) (by unfold maxLen; omega)
      go_wp2
      go_ret3
      obtain rfl : XI = 0 := hx1
      obtain rfl : XE = 0 := hx2
      first | exact ⟨_, _, _, rfl, hbf, by rw [HV1.out]; exact hro⟩ | exact ⟨_, _, ⟨_, rfl⟩, hbf, by rw [HV1.out]; exact hro⟩
end Go.Proofs.YtppkckbnjnenfaaGreat
/- New cells of a function's parameters. -/
namespace Go.Proofs.YtppkckbnjnenfaaGreat
open Go.RowKit Go.Shelf
set_option linter.unusedVariables false
theorem alA1 (w : World) (o1 : Obj) : Below w.heap.size w (w.alloc o1) ∧ BlkR (w.alloc o1) w.heap.size o1 := ⟨by (first|exact bwg|go_size), heap_alloc_new _ _⟩
theorem alA2 (w : World) (o1 o2 : Obj) : Below w.heap.size w ((w.alloc o1).alloc o2) ∧ BlkR ((w.alloc o1).alloc o2) w.heap.size o1 ∧ BlkR ((w.alloc o1).alloc o2) (w.heap.size + 1) o2 := by
 refine ⟨by (first|exact bwg|go_size), ?_, ?_⟩
 ·show _ = _
  rw [Below.heap_alloc _ _ _ (by simp)]
  exact heap_alloc_new _ _
 ·have := heap_alloc_new (w.alloc o1) o2
  show _ = _
  simpa using this
theorem alA3 (w : World) (o1 o2 o3 : Obj) : Below w.heap.size w (((w.alloc o1).alloc o2).alloc o3) ∧ BlkR (((w.alloc o1).alloc o2).alloc o3) w.heap.size o1 ∧ BlkR (((w.alloc o1).alloc o2).alloc o3) (w.heap.size + 1) o2 ∧ BlkR (((w.alloc o1).alloc o2).alloc o3) (w.heap.size + 1 + 1) o3 := by
 obtain ⟨h1, h2, h3⟩ := alA2 w o1 o2
 refine ⟨by (first|exact bwg|go_size), ?_, ?_, ?_⟩
 ·show _ = _
  rw [Below.heap_alloc _ _ _ h2.lt]
  exact h2
 ·show _ = _
  rw [Below.heap_alloc _ _ _ h3.lt]
  exact h3
 ·have := heap_alloc_new ((w.alloc o1).alloc o2) o3
  show _ = _
  simpa using this
end Go.Proofs.YtppkckbnjnenfaaGreat
