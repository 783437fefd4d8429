import Derived.Test.YtppkckbnjnenfaaGreatMTWeaO
/- Wear: the reference. -/
namespace Go.Proofs.YtppkckbnjnenfaaGreat
open Go.RowKit Go.Shelf
set_option linter.unusedVariables false
set_option linter.unusedSimpArgs false
attribute [local go_sem] Oper.semAt_some
def z01 (n k : Nat) : List (Int × Int) := List.replicate k (0, 1) ++ List.replicate (n - k) (0, 0)
theorem z01_len {n k : Nat} (h : k ≤ n) : (z01 n k).length = n := by simp [z01]; omega
theorem z01_set {n k : Nat} (h : k < n) : (z01 n k).set k (0, 1) = z01 n (k + 1) := by
 unfold z01
 rw [List.set_append, if_neg (by simp), show n - k = (n - (k + 1)) + 1 by omega, List.replicate_succ, List.length_replicate, Nat.sub_self, List.set_cons_zero, List.replicate_succ', List.append_assoc]
 rfl
theorem z01_end (n : Nat) : z01 n n = (List.replicate n (0 : Rat)).map frR := by
 unfold z01
 rw [Nat.sub_self, List.map_replicate, List.replicate_zero, List.append_nil]
 rfl
theorem z01_frs : ∀ n : Nat, frs 0 1 0 n = pcells (z01 n 0)
 | 0 => rfl
 | n + 1 => by
  have ih := z01_frs n
  unfold z01 at ih ⊢
  simp only [frs, List.replicate_zero, List.nil_append, Nat.sub_zero] at ih ⊢
  rw [show 2 * (n + 1) = 2 * n + 1 + 1 by omega, List.replicate_succ, List.replicate_succ, ih, List.replicate_succ]
  rfl
set_option maxHeartbeats 4000000 in
set_option maxRecDepth 100000 in
theorem rWear_any (m : Mac) (l : Lim) (c : List Int) (load : Int) (ac ab ag : Option Addr) (n cc nb cb ng cg : Nat) (w : World) (hop : opnE m l = 0) (hb : BrR w ab nb m.br) (hg : GrR w ag ng m.gs) (hc : IntsR w ac n c) :
    Calls Tryz.prog 38 #[.agg #[.slice ab nb cb, .int .i64 m.st, .slice ag ng cg], .agg #[.int .i64 l.volt, .int .i64 l.lo, .int .i64 l.hi, .int .i64 l.circ, .int .i64 l.brk, .int .i64 l.ret], .slice ac n cc, .int .i64 load] w
     fun e' w' => ∃ a' n' c', e' = .returned (.tuple #[.slice a' n' c', .int .i64 (weaX m l c load).1, .int .i64 (weaX m l c load).2]) ∧ Below w.heap.size w w' ∧ PairsR w' a' n' (weaV m l c load) := by
 obtain ⟨hm, hl⟩ := opnE_zero hop
 have hlen := hb.len
 have hn6 : nb ≤ 6 := by rw [← hlen]; exact hm.n1
 have HRU := Lib.hid (fun (W : World) (hbw : Below w.heap.size w W) => rRun_any m l c ac ab ag n cc nb cb ng cg W hm hl (hb.below hbw) (hg.below hbw) (hc.below hbw))
 have HLO := Lib.hid (fun (W : World) => rLoaE_any load W)
 have HBR := Lib.hid (fun (s i : Nat) (hd : -1000 ≤ load ∧ load ≤ 1000) (hs : s < 2 ^ nb) (hi : i < nb) (W : World) (hbw : Below w.heap.size w W) => rbreak_any m l s i load ab ag nb cb ng cg W hm (limE_zero.1 hl).1 hd (hb.below hbw) hs hi)
 have hX : weaX m l c load = if (runX m l c).2 ≠ 0 then runX m l c else if loaE load ≠ 0 then (0, loaE load) else (0, (firstAt (weE m l c load) c.length 0).2) := by unfold weaX; rw [if_neg (by rw [hop]; exact fun h => h rfl)]
 have hV : weaV m l c load = if (weaX m l c load).2 ≠ 0 then [] else (weQ m l c load c.length).map frR := rfl
 have HMK := Lib.hid (fun (W : World) => makeFracs Tryz.prog W 82 107 Tryz.underlying82 (by rfl) nb (by omega))
 have HCC := Lib.hid hc
 have HHM := Lib.hid hm
 have HHL := Lib.hid hl
 have HLN := Lib.hid hlen
 obtain ⟨X, hXX⟩ : ∃ X, X = weaX m l c load := ⟨_, rfl⟩
 rw [← hXX] at hX hV ⊢
 generalize weaV m l c load = V at *
 generalize hRX : runX m l c = RX at *
 generalize hLE : loaE load = LE at *
 have HRX := Lib.hid hRX
 have HLE := Lib.hid hLE
 obtain ⟨XI, XE⟩ := X
 obtain ⟨RI, RE⟩ := RX
 have HX := Lib.hid hX
 have HV := Lib.hid hV
 obtain ⟨L, hL⟩ : ∃ L, L = l := ⟨_, rfl⟩
 have HL := Lib.hid hL
 obtain ⟨vo, lo, hi, ci, br, re⟩ := l
 obtain ⟨st, hst⟩ : ∃ x, x = m.st := ⟨_, rfl⟩
 rw [← hst] at HBR HRU ⊢
 simp only [madeFracs 0 1, z01_frs] at HMK
 simp only at HRU HBR ⊢
 clear hb hg hc hst hX hV hRX hLE hXX hL hm hl hop hlen
 go_enter Tryz.func38, Tryz.ntmps38
 go_wp2_with fail
 obtain ⟨w1, hW⟩ : ∃ w1, w1 = ((w.alloc (Obj.cells #[.slice ab nb cb, .int .i64 st, .slice ag ng cg] 45)).alloc (Obj.cells #[.int .i64 vo, .int .i64 lo, .int .i64 hi, .int .i64 ci, .int .i64 br, .int .i64 re] 47)) := ⟨_, rfl⟩
 obtain ⟨hb1, k4, k5⟩ := alc2 w (Obj.cells #[.slice ab nb cb, .int .i64 st, .slice ag ng cg] 45) (Obj.cells #[.int .i64 vo, .int .i64 lo, .int .i64 hi, .int .i64 ci, .int .i64 br, .int .i64 re] 47)
 rw [← hW] at hb1 k4 k5
 rw [← hW]
 obtain ⟨X4, hX4⟩ : ∃ X, X = w.heap.size := ⟨_, rfl⟩
 obtain ⟨X5, hX5⟩ : ∃ X, X = w.heap.size + 1 := ⟨_, rfl⟩
 rw [← hX5] at k5
 have k4 : BlkR w1 X4 (.cells #[.slice ab nb cb, .int .i64 st, .slice ag ng cg] 45) := by rw [hX4]; exact k4
 simp only [← hX5]
 simp only [← hX4]
 have K4 := Lib.hid k4
 have K5 := Lib.hid k5
 have HB := Lib.hid hb1
 have hw4 : w.heap.size ≤ X4 := by omega
 clear hW hX4 hX5 k4 k5 hb1
 obtain ⟨q0, q1, q2, _⟩ := blkc3 K4.out
 obtain ⟨u0, u1, u2, u3, u4, u5, _⟩ := blkc6 K5.out
 have l4 := K4.out.lt
 have l5 := K5.out.lt
 refine (HRU.out _ HB.out).mono ?_
 rintro e2 w2 ⟨a2, n2, c2, rfl, hb2, hi2⟩
 have HI := Lib.hid hi2
 have K4 := Lib.hid (K4.out.below hb2)
 have K5 := Lib.hid (K5.out.below hb2)
 have HB := bwt HB hb2
 clear hb2
 clear q0 q1 q2 u0 u1 u2 u3 u4 u5 l4 l5
 obtain ⟨q0, q1, q2, _⟩ := blkc3 K4.out
 obtain ⟨u0, u1, u2, u3, u4, u5, _⟩ := blkc6 K5.out
 have l4 := K4.out.lt
 have l5 := K5.out.lt
 clear hi2 HRU
 by_cases h1 : RE = 0
 rotate_left
 ·have e1 := bne_iff_ne.2 h1
  have hx1 := HX.out
  rw [if_pos (by exact h1)] at hx1
  injection hx1 with hx1 hx2
  have hv1 := HV.out
  rw [if_pos (by rw [hx2]; exact h1)] at hv1
  clear HX HV
  go_wp2
  go_ret3
  obtain rfl : XI = RI := hx1
  obtain rfl : XE = RE := hx2
  first | exact ⟨none, 0, 0, rfl, HB.out, by rw [hv1]; exact SlR.nil _ _ _⟩ | exact ⟨none, 0, ⟨0, rfl⟩, HB.out, by first | exact SlR.nil _ _ _ | (rw [hv1]; exact SlR.nil _ _ _)⟩
 ·subst h1
  have hx1 := HX.out
  rw [if_neg (by exact fun h => h rfl)] at hx1
  have HX := Lib.hid hx1
  clear hx1
  have HOK := Lib.hid (run_ok (m := m) (l := L) (c := c) (by rw [HL.out, HRX.out]))
  by_cases h2 : LE = 0
  rotate_left
  ·have e1 := bne_iff_ne.2 h2
   have hx1 := HX.out
   rw [if_pos h2] at hx1
   injection hx1 with hx1 hx2
   have hv1 := HV.out
   rw [if_pos (by rw [hx2]; exact h2)] at hv1
   clear HX HV
   go_wp2_with fail
   refine (HLO.out _).mono ?_
   rintro e8 w8 ⟨rfl, rfl⟩
   go_wp2
   go_ret3
   obtain rfl : XI = 0 := hx1
   obtain rfl : XE = LE := hx2
   first | exact ⟨none, 0, 0, rfl, HB.out, by rw [hv1]; exact SlR.nil _ _ _⟩ | exact ⟨none, 0, ⟨0, rfl⟩, HB.out, by first | exact SlR.nil _ _ _ | (rw [hv1]; exact SlR.nil _ _ _)⟩
  ·subst h2
   have hx1 := HX.out
   rw [if_neg (by exact fun h => h rfl)] at hx1
   have HX := Lib.hid hx1
   have HLD := Lib.hid (loaE_zero.1 HLE.out)
   clear hx1
   go_wp2_with fail
   refine (HLO.out _).mono ?_
   rintro e8 w8 ⟨rfl, rfl⟩
   go_wp2_with fail
   rw [HMK.out]
   obtain ⟨w3, hW⟩ : ∃ w3, w3 = w2.alloc (Obj.cells (pcells (z01 nb 0)).toArray 107) := ⟨_, rfl⟩
   obtain ⟨hb3, k6⟩ := alA1 w2 (Obj.cells (pcells (z01 nb 0)).toArray 107)
   rw [← hW] at hb3 k6
   rw [← hW]
   obtain ⟨g, hg⟩ : ∃ X, X = w2.heap.size := ⟨_, rfl⟩
   rw [← hg] at k6
   simp only [← hg]
   have HGW := Lib.hid (show w.heap.size ≤ g by rw [hg]; exact HB.out.size)
   have HG4 := Lib.hid (show X4 < g ∧ X5 < g by rw [hg]; exact ⟨l4, l5⟩)
   have HGL := Lib.hid (show 0 < n2 → ∃ b o, a2 = some ⟨b, o, none⟩ ∧ b < g from fun hn => by
    obtain ⟨b', o', h', hb', _⟩ := HI.out.addr hn
    exact ⟨b', o', h', by rw [hg]; exact hb'⟩)
   have HI := Lib.hid (HI.out.below hb3)
   have K6 := Lib.hid k6
   have K4 := Lib.hid (K4.out.below hb3)
   have K5 := Lib.hid (K5.out.below hb3)
   have HB := bwt HB hb3
   clear hb3
   clear q0 q1 q2 u0 u1 u2 u3 u4 u5 l4 l5
   obtain ⟨q0, q1, q2, _⟩ := blkc3 K4.out
   obtain ⟨u0, u1, u2, u3, u4, u5, _⟩ := blkc6 K5.out
   have l4 := K4.out.lt
   have l5 := K5.out.lt
   clear hW hg k6
   go_wp2_with fail
   go_loopw [15] (fun x wr => ∃ k : Nat, x = .int .i64 (k : Int) ∧ k ≤ nb ∧ Hid (BlkR wr g (.cells (pcells (z01 nb k)).toArray 107)) ∧ Hid (Below g w3 wr)) (fun x _ => nb - (intOf x).toNat)
   case atStart => exact ⟨0, rfl, by omega, K6, Lib.hid (Below.refl _ _)⟩
   case round =>
    clear K6
    obtain ⟨k, rfl, hk, K6, HBr⟩ := hrel
    have i0 : (0 : Int) ≤ (k : Int) := by omega
    by_cases hlt : k < nb
    ·have i1 : (k : Int) < (nb : Int) := by omega
     go_wp2_with fail
     refine (bwhole6_any 0 _).mono ?_
     rintro e9 w9 ⟨rfl, hb9⟩
     have HBr := Lib.hid (HBr.out.trans (hb9.mono (by have := K6.out.lt; omega)))
     have K6 := Lib.hid (K6.out.below hb9)
     obtain ⟨pg0, pg1⟩ := pcells_get (z01 nb k) k (by rw [z01_len (by omega)]; exact hlt)
     have cg0 := cell_of_row _ _ (k * 2) _ _ _ K6.out
     have cg1 := cell_of_row _ _ (k * 2 + 1) _ _ _ K6.out
     rw [List.getElem?_toArray] at cg0 cg1
     rw [pg0] at cg0
     rw [pg1] at cg1
     have fg0 := frozen_of_row _ _ (k * 2) _ _ K6.out
     have fg1 := frozen_of_row _ _ (k * 2 + 1) _ _ K6.out
     have lg := K6.out.lt
     clear pg0 pg1 hb9
     go_wp2_with fail
     have kw := blk_pset K6.out k (0, 1)
     rw [z01_set hlt] at kw
     refine ⟨⟨k + 1, by go_num, by omega, Lib.hid kw, Lib.hid ?_⟩, ?_⟩
     ·exact (HBr.out.setCell (p := ⟨g, k * 2, none⟩) (Nat.le_refl _) _).setCell (p := ⟨g, k * 2 + 1, none⟩) (Nat.le_refl _) _
     ·simp only [intOf]; omega
    ·obtain rfl : nb = k := by omega
     have i1 : ¬ (nb : Int) < (nb : Int) := by omega
     have k6 : BlkR wr g (.cells (pcells ((weQ m L c load 0).map frR)).toArray 107) := by
      have h := K6.out
      rw [z01_end] at h
      unfold weQ
      rw [HLN.out]
      exact h
     have K6 := Lib.hid k6
     have HBR := HBr
     clear k6 HBr
     go_wp2_with fail
     go_loopw [16] (fun x wr => ∃ k : Nat, x = .int .i64 (k : Int) ∧ k ≤ n ∧ Hid (∀ j, j < k → weE m L c load j = 0) ∧ Hid (BlkR wr g (.cells (pcells ((weQ m L c load k).map frR)).toArray 107)) ∧ Hid (Below g w3 wr)) (fun x _ => n - (intOf x).toNat)
     case atStart => exact ⟨0, rfl, by omega, Lib.hid (fun j h => absurd h (by omega)), K6, HBR⟩
     case round =>
      clear K6 HBR
      obtain ⟨k, rfl, hk, HWE, HRO, HBr⟩ := hrel
      have j0 : (0 : Int) ≤ (k : Int) := by omega
      have HBw := Lib.hid (show Below w.heap.size w wr from HB.out.trans (HBr.out.mono HGW.out))
      have K4 := Lib.hid (show BlkR wr X4 _ from (HBr.out.block _ HG4.out.1).trans K4.out)
      have K5 := Lib.hid (show BlkR wr X5 _ from (HBr.out.block _ HG4.out.2).trans K5.out)
      have HCL := Lib.hid HCC.out.len
      have HC8 := Lib.hid (HCC.out.below HBw.out)
      by_cases hlt : k < n
      ·have j1 : (k : Int) < (n : Int) := by omega
       have hi7 : IntsR w3 a2 n2 (nats (runL m c n)) := by
        have h := HI.out
        rw [← HL.out, runV_ok (by rw [HL.out, HRX.out]), HCL.out] at h
        exact h
       have hn7 : n2 = n + 1 := by have h := hi7.len; simp [nats, runL] at h; omega
       obtain ⟨bq, oq, rfl, hbq, hca⟩ := HC8.out.addr (by omega)
       have hcl := hca k hlt
       clear hca
       generalize hx : c.getD k 0 = x at hcl
       have HGX := Lib.hid hx
       clear hx
       obtain ⟨bs, os, hba, hbs⟩ := HGL.out (by omega)
       subst hba
       obtain ⟨_, _, hq1, hbq2, hsa⟩ := hi7.addr (by omega)
       injection hq1 with hq1
       injection hq1 with hq1 hq2
       subst hq1 hq2
       have hsc0 := hsa k (by omega)
       rw [runL_get m c (by omega)] at hsc0
       have hsc : wr.cell? ⟨bs, os + k, none⟩ = some (.int .i64 ((runS m c k : Nat) : Int)) := by rw [cellB HBr.out _ _ hbs]; exact hsc0
       have hbs' : bs < wr.heap.size := by have := HBr.out.size; omega
       have j2 : (k : Int) < (n2 : Int) := by omega
       clear hsa hsc0 hi7
       obtain ⟨hck1, hck2⟩ := HOK.out.2.2 k (by rw [HCL.out]; exact hlt)
       rw [HGX.out] at hck1 hck2
       rw [HLN.out] at hck1
       obtain ⟨xn, rfl, hxn⟩ : ∃ xn : Nat, x = (xn : Int) ∧ xn < nb := by have := conE_zero.1 hck1; exact ⟨x.toNat, by omega, by omega⟩
       rw [Int.toNat_natCast] at hck2
       have hsN : runS m c k < 2 ^ m.br.length := runS_lt HHM.out k (fun j hj => (HOK.out.2.2 j (by rw [HCL.out]; omega)).1)
       have hs64 : runS m c k < 64 := Nat.lt_of_lt_of_le hsN (Nat.le_trans (Nat.pow_le_pow_right (by omega) HHM.out.n1) (by decide))
       have HSN := Lib.hid hsN
       have HCK := Lib.hid hck2
       have HIC := Lib.hid (fun W => isClosed_any (runS m c k) xn W hs64 (by omega))
       have HWQ := Lib.hid (show weQ m L c load (k + 1) = if (runS m c k).testBit xn = true then (weQ m L c load k).set xn ((weQ m L c load k).getD xn 0 + weZ m L c load k * weZ m L c load k) else weQ m L c load k from by show (if weB m c k = true then _ else _) = _; unfold weB; rw [HGX.out]; rfl)
       have HWK := Lib.hid (show weE m L c load k = if (runS m c k).testBit xn = false then 0 else if smallQ (weZ m L c load k * weZ m L c load k) = false then 8 else if smallQ ((weQ m L c load k).getD xn 0 + weZ m L c load k * weZ m L c load k) = false then 8 else 0 from by unfold weE weB; rw [HGX.out]; rfl)
       have HWZ := Lib.hid (show weZ m L c load k = zQ m L (runS m c k) load xn from by unfold weZ; rw [HGX.out]; rfl)
       have HBK := Lib.hid (fun (W : World) (hbw : Below w.heap.size w W) => HBR.out (runS m c k) xn HLD.out (by rw [← HLN.out]; exact hsN) hxn W hbw)
       have hn40 : n ≤ 40 := by have h := HOK.out.1; rw [HCL.out] at h; exact h
       clear hck1 hck2 hsN hs64 hn7 hbs hbq2
       generalize htb : (runS m c k).testBit xn = TB at *
       have HTB := Lib.hid htb
       clear htb
       go_wp2_with fail
       refine (HIC.out _).mono ?_
       rintro e11 w11 ⟨rfl, rfl⟩
       cases TB
       ·have HW1 := Lib.hid (HWQ.out.trans (if_neg (by decide)))
        have HW2 := Lib.hid (HWK.out.trans (if_pos rfl))
        clear HWQ HWK
        go_wp2
        refine ⟨⟨k + 1, by go_num, by omega, Lib.hid (fun j hj => by
         by_cases hjk : j = k
         ·subst hjk; exact HW2.out
         ·exact HWE.out j (by omega)), Lib.hid (by rw [HW1.out]; exact HRO.out), HBr⟩, ?_⟩
        simp only [intOf]; omega
       ·have HW1 := Lib.hid (HWQ.out.trans (if_pos rfl))
        have HW2 := Lib.hid (HWK.out.trans (if_neg (by decide)))
        clear HWQ HWK
        obtain ⟨hel1, hel2, hcu1, hcu2⟩ := we_ok (load := load) HHM.out (by rw [HL.out]; exact HHL.out) HLD.out HSN.out (by rw [HLN.out]; exact hxn) HCK.out
        have HSQ := Lib.hid (brk_sq hel1 (by rw [HLN.out]; exact hxn))
        have HRV := Lib.hid (show rbrV m L (runS m c k) xn load = (brkC m L (runS m c k) xn load, brkV m L (runS m c k) xn load) ∧ rbrE m (runS m c k) xn = 0 from by
         have h : rbrE m (runS m c k) xn = 0 := by unfold rbrE; rw [HTB.out, if_neg (by decide), if_neg (by rw [hcu1]; exact fun h => h rfl)]; exact hcu2
         refine ⟨?_, h⟩
         unfold rbrV
         rw [if_pos h])
        have HSB0 := Lib.hid (show (0 ≤ (brkC m L (runS m c k) xn load).1 ∧ (brkC m L (runS m c k) xn load).1 ≤ 1000000000) ∧ (0 < (brkC m L (runS m c k) xn load).2 ∧ (brkC m L (runS m c k) xn load).2 ≤ 1000000000) from by
         have h := curT_bd hel1 (k := xn) (by rw [HLN.out]; exact hxn)
         unfold brkC sz
         simp only
         omega)
        rw [← HL.out, HRV.out.1, HRV.out.2] at HBK
        clear hel1 hel2 hcu1 hcu2 HRV
        generalize brkC m L (runS m c k) xn load = BC at *
        generalize brkV m L (runS m c k) xn load = BV at *
        obtain ⟨C1, C2⟩ := BC
        obtain ⟨V1, V2⟩ := BV
        simp only at HBK HSQ HSB0
        obtain ⟨q0, q1, q2, _⟩ := blkc3 K4.out
        obtain ⟨u0, u1, u2, u3, u4, u5, _⟩ := blkc6 K5.out
        have l4 := K4.out.lt
        have l5 := K5.out.lt
        go_wp2_with fail
        go_cut [18, 19] from 72 to 84 (fun v18 v19 wx => ∃ X9 : Nat, v18 = .pointer (some ⟨X9, 0, none⟩) ∧ v19 = .int .i64 0 ∧ Hid (BlkR wx X9 (.cells #[.int .i64 C1, .int .i64 C2, .int .i64 V1, .int .i64 V2] 150)) ∧ Hid (Below wr.heap.size wr wx))
        case first =>
         have HN := Lib.hid (Below.refl wr.heap.size wr).drew
         refine wp_region_laterT (B := wr.heap.size) (.head 0 (.head 1 (.head 2 (.head 3 (.head 4 (.head 5 (.head 6 (.head 7 (.two 8 (.head 9 (.head 10 (.head 11 (.one 12 (.one 13 (.head 14 .done)))))) 12 (.one 8 (.head 9 (.head 10 (.head 11 (.one 13 (.head 14 .done))))))))))))))) (by kernel_rfl) (by kernel_rfl) ?_
         repeat (refine tree_head rfl ?_; (show wpQuiet _ _ _ _ (_ :: _) _; go_big_quiet_step (fail)); refine wpQuiet_nil ?_)
         refine tree_two rfl rfl ?_ ?_
         ·go_wp2_with fail
          refine (HBK.out _ (HBw.out.trans (HN.out.mono HBw.out.size))).mono ?_
          rintro e11 wx1 ⟨rfl, hbx⟩
          have hzx := hbx.size
          have HN := bwt HN hbx
          clear hbx
          go_wp2_with fail
          refine tailL_mk HN.out ?_
          repeat (refine tree_head rfl ?_; (show wpQuiet _ _ _ _ (_ :: _) _; go_big_quiet_step (fail)); refine wpQuiet_nil ?_)
          refine tree_one rfl ?_
          go_wp2_with fail
          obtain ⟨X9, hX9, hNX, hx9, l9, hs9, hbx⟩ := xal HN.out (Obj.cells #[.int .i64 0, .int .i64 0, .int .i64 0, .int .i64 0] 150)
          try simp only [← hX9]
          generalize (wx1.alloc (Obj.cells #[.int .i64 0, .int .i64 0, .int .i64 0, .int .i64 0] 150)) = wx2 at *
          have HX9 := Lib.hid (And.intro hX9 hs9)
          have HN := bwt HN hbx
          clear hbx hX9 hs9
          refine tailL_mk HN.out ?_
          refine tree_one rfl ?_
          obtain ⟨c90, c91, c92, c93, f90, f91, f92, f93⟩ := xcf4 hx9
          go_wp2_with fail
          have hq9 := xst4 HN.out hNX hx9 (.int .i64 C1) (.int .i64 C2) (.int .i64 V1) (.int .i64 V2)
          have HN := Lib.hid hq9.1
          have hxo := hx9
          have hx9 := hq9.2
          clear hq9
          refine tailL_mk HN.out ?_
          repeat (refine tree_head rfl ?_; (show wpQuiet _ _ _ _ (_ :: _) _; go_big_quiet_step (fail)); refine wpQuiet_nil ?_)
          refine tree_done ?_
          go_wp2_with fail
          go_meet
          case rel => exact ⟨X9, rfl, rfl, Lib.hid hx9, HN⟩
         ·go_wp2_with fail
          obtain ⟨X9, hX9, hNX, hx9, l9, hs9, hbx, hbd⟩ := xald HN.out (Obj.cells #[.int .i64 0, .int .i64 0, .int .i64 0, .int .i64 0] 150)
          try simp only [← hX9]
          generalize (wr.alloc (Obj.cells #[.int .i64 0, .int .i64 0, .int .i64 0, .int .i64 0] 150)).drew = wx4 at *
          have HX9 := Lib.hid (And.intro hX9 hs9)
          have HN := Lib.hid hbx
          clear hbx hX9 hs9 hbd
          refine tailL_mk HN.out ?_
          refine tree_one rfl ?_
          go_wp2_with fail
          refine (HBK.out _ (HBw.out.trans (HN.out.mono HBw.out.size))).mono ?_
          rintro e11 wx5 ⟨rfl, hbx⟩
          have hzx := hbx.size
          have HN := bwt HN hbx
          have hx9 := (hbx.block X9 l9).trans hx9
          have l9 := Nat.lt_of_lt_of_le l9 hbx.size
          clear hbx
          go_wp2_with fail
          refine tailL_mk HN.out ?_
          repeat (refine tree_head rfl ?_; (show wpQuiet _ _ _ _ (_ :: _) _; go_big_quiet_step (fail)); refine wpQuiet_nil ?_)
          refine tree_one rfl ?_
          obtain ⟨c90, c91, c92, c93, f90, f91, f92, f93⟩ := xcf4 hx9
          go_wp2_with fail
          have hq9 := xst4 HN.out hNX hx9 (.int .i64 C1) (.int .i64 C2) (.int .i64 V1) (.int .i64 V2)
          have HN := Lib.hid hq9.1
          have hxo := hx9
          have hx9 := hq9.2
          clear hq9
          refine tailL_mk HN.out ?_
          repeat (refine tree_head rfl ?_; (show wpQuiet _ _ _ _ (_ :: _) _; go_big_quiet_step (fail)); refine wpQuiet_nil ?_)
          refine tree_done ?_
          go_wp2_with fail
          go_meet
          case rel => exact ⟨X9, rfl, rfl, Lib.hid hx9, HN⟩
        case rest =>
         obtain ⟨wy, rfl⟩ : ∃ w', w' = wc := ⟨wc, rfl⟩
         obtain ⟨X9, rfl, rfl, K9, HQ7⟩ := hcut
         have hb7 := HQ7.out
         have HBr := Lib.hid (HBr.out.trans (hb7.mono (Nat.le_of_lt HRO.out.lt)))
         have HRO := Lib.hid (HRO.out.below hb7)
         have HBw := bwt HBw hb7
         clear hb7 HQ7 hcl hsc HBK HIC
         clear q0 q1 q2 u0 u1 u2 u3 u4 u5 l4 l5
         clear K4 K5
         obtain ⟨y0, y1, y2, y3, l9⟩ := blkc4 K9.out
         obtain ⟨QC, hQC⟩ : ∃ q : Rat, q = Rat.divInt C1 C2 := ⟨_, rfl⟩
         have hqq : QC * QC = weZ m L c load k * weZ m L c load k := by
          have hz := HSQ.out
          rw [← HWZ.out] at hz
          have e1 := congrArg Prod.fst hz
          have e2 := congrArg Prod.snd hz
          rw [← Rat.num_divInt_den (weZ m L c load k * weZ m L c load k), hQC, Rat.divInt_mul_divInt]
          have e3 : C1 * C1 = (weZ m L c load k * weZ m L c load k).num := e1
          have e4 : C2 * C2 = ((weZ m L c load k * weZ m L c load k).den : Int) := e2
          rw [e3, e4]
         have HFR := Lib.hid (fun W => show Calls Tryz.prog 95 #[.agg #[.int .i64 C1, .int .i64 C2]] W (RBPost W QC) from by rw [hQC]; have h := HSB0.out; exact rb_from C1 C2 W (by omega) (by omega) (by omega) (by omega) (by omega))
         have HSZ := Lib.hid (show Sz 2 QC from by rw [hQC]; have h := HSB0.out; exact sz_parts (by omega) (by omega))
         have HFC := Lib.hid (fun (v : Value) (W : World) (h : RB W v (QC * QC)) => show Calls Tryz.prog 93 #[v] W (fun e' w' => e' = .returned (.tuple #[.agg #[.int .i64 (if smallQ (weZ m L c load k * weZ m L c load k) = true then (weZ m L c load k * weZ m L c load k).num else 0), .int .i64 (if smallQ (weZ m L c load k * weZ m L c load k) = true then ((weZ m L c load k * weZ m L c load k).den : Int) else 0)], .bool (smallQ (weZ m L c load k * weZ m L c load k))]) ∧ Below W.heap.size W w') from by rw [hqq] at h; exact rb_frac _ _ _ h)
         clear hqq hQC
         generalize hZZ : weZ m L c load k * weZ m L c load k = ZZ at *
         obtain ⟨N1, hN1⟩ : ∃ x, x = if smallQ ZZ = true then ZZ.num else 0 := ⟨_, rfl⟩
         obtain ⟨D1, hD1⟩ : ∃ x, x = if smallQ ZZ = true then (ZZ.den : Int) else 0 := ⟨_, rfl⟩
         rw [← hN1, ← hD1] at HFC
         generalize hSM : smallQ ZZ = SM at *
         have HN1 := Lib.hid hN1
         have HD1 := Lib.hid hD1
         have HSM := Lib.hid hSM
         have HZZ := Lib.hid hZZ
         clear hN1 hD1 hSM hZZ
         go_wp2_with fail
         go_cut [20, 21] from 84 to 95 (fun v18 v19 wx => ∃ X9 : Nat, v18 = .pointer (some ⟨X9, 0, none⟩) ∧ v19 = .bool SM ∧ Hid (BlkR wx X9 (.cells #[.int .i64 N1, .int .i64 D1] 107)) ∧ Hid (Below wy.heap.size wy wx))
         case first =>
          have HN := Lib.hid (Below.refl wy.heap.size wy).drew
          refine wp_region_laterT (B := wy.heap.size) (.head 0 (.head 1 (.head 3 (.head 4 (.two 2 (.two 5 (.two 6 (.two 7 (.head 8 (.head 9 (.head 10 (.one 11 (.one 12 (.head 13 .done)))))) 11 (.one 7 (.head 8 (.head 9 (.head 10 (.one 12 (.head 13 .done))))))) 11 (.one 6 (.one 7 (.head 8 (.head 9 (.head 10 (.one 12 (.head 13 .done)))))))) 11 (.one 5 (.one 6 (.one 7 (.head 8 (.head 9 (.head 10 (.one 12 (.head 13 .done))))))))) 11 (.one 2 (.one 5 (.one 6 (.one 7 (.head 8 (.head 9 (.head 10 (.one 12 (.head 13 .done)))))))))))))) (by kernel_rfl) (by kernel_rfl) ?_
          repeat (refine tree_head rfl ?_; (show wpQuiet _ _ _ _ (_ :: _) _; go_big_quiet_step (fail)); refine wpQuiet_nil ?_)
          refine tree_two rfl rfl ?_ ?_
          ·go_wp2_with fail
           refine (HFR.out _).mono ?_
           rintro ex wx1 ⟨sA, aA, nA, cA, tA, bA, mA, dA, rfl, hbx, hA, _⟩
           have HA := Lib.hid hA
           clear hA
           have hzx := hbx.size
           have HN := bwt HN hbx
           clear hbx
           go_wp2_with fail
           refine tailL_mk HN.out ?_
           refine tree_two rfl rfl ?_ ?_
           ·go_wp2_with fail
            refine (HFR.out _).mono ?_
            rintro ex wx2 ⟨sB, aB, nB, cB, tB, bB, mB, dB, rfl, hbx, hB, _⟩
            have HB' := Lib.hid hB
            clear hB
            have hzx := hbx.size
            have HN := bwt HN hbx
            have HA := Lib.hid (HA.out.below hbx)
            clear hbx
            go_wp2_with fail
            refine tailL_mk HN.out ?_
            refine tree_two rfl rfl ?_ ?_
            ·go_wp2_with fail
             refine (rb_mul _ _ _ _ 2 2 _ HA.out HB'.out HSZ.out HSZ.out (by omega)).mono ?_
             rintro ex wx3 ⟨sC, aC, nC, cC, tC, bC, mC, dC, rfl, hbx, hC, _⟩
             have HC := Lib.hid hC
             clear hC
             have hzx := hbx.size
             have HN := bwt HN hbx
             have HA := Lib.hid (HA.out.below hbx)
             have HB' := Lib.hid (HB'.out.below hbx)
             clear hbx
             go_wp2_with fail
             refine tailL_mk HN.out ?_
             refine tree_two rfl rfl ?_ ?_
             ·go_wp2_with fail
              refine (HFC.out _ _ HC.out).mono ?_
              rintro ex wx4 ⟨rfl, hbx⟩
              have hzx := hbx.size
              have HN := bwt HN hbx
              have HA := Lib.hid (HA.out.below hbx)
              have HB' := Lib.hid (HB'.out.below hbx)
              have HC := Lib.hid (HC.out.below hbx)
              clear hbx
              go_wp2_with fail
              refine tailL_mk HN.out ?_
              repeat (refine tree_head rfl ?_; (show wpQuiet _ _ _ _ (_ :: _) _; go_big_quiet_step (fail)); refine wpQuiet_nil ?_)
              refine tree_one rfl ?_
              go_wp2_with fail
              obtain ⟨X9, hX9, hNX, hx9, l9, hs9, hbx⟩ := xal HN.out (Obj.cells #[.int .i64 0, .int .i64 0] 107)
              try simp only [← hX9]
              generalize (wx4.alloc (Obj.cells #[.int .i64 0, .int .i64 0] 107)) = wx5 at *
              have HX9 := Lib.hid (And.intro hX9 hs9)
              have HN := bwt HN hbx
              have HA := Lib.hid (HA.out.below hbx)
              have HB' := Lib.hid (HB'.out.below hbx)
              have HC := Lib.hid (HC.out.below hbx)
              clear hbx hX9 hs9
              refine tailL_mk HN.out ?_
              refine tree_one rfl ?_
              obtain ⟨c90, c91, f90, f91⟩ := xcf2 hx9
              go_wp2_with fail
              have hq9 := xst2 HN.out hNX hx9 (.int .i64 N1) (.int .i64 D1)
              have HN := Lib.hid hq9.1
              have hxo := hx9
              have hx9 := hq9.2
              clear hq9
              refine tailL_mk HN.out ?_
              repeat (refine tree_head rfl ?_; (show wpQuiet _ _ _ _ (_ :: _) _; go_big_quiet_step (fail)); refine wpQuiet_nil ?_)
              refine tree_done ?_
              go_wp2_with fail
              go_meet
              case rel => exact ⟨X9, rfl, rfl, Lib.hid hx9, HN⟩
             ·go_wp2_with fail
              obtain ⟨X9, hX9, hNX, hx9, l9, hs9, hbx⟩ := xal HN.out (Obj.cells #[.int .i64 0, .int .i64 0] 107)
              try simp only [← hX9]
              generalize (wx3.alloc (Obj.cells #[.int .i64 0, .int .i64 0] 107)) = wx7 at *
              have HX9 := Lib.hid (And.intro hX9 hs9)
              have HN := bwt HN hbx
              have HA := Lib.hid (HA.out.below hbx)
              have HB' := Lib.hid (HB'.out.below hbx)
              have HC := Lib.hid (HC.out.below hbx)
              clear hbx hX9 hs9
              refine tailL_mk HN.out ?_
              refine tree_one rfl ?_
              go_wp2_with fail
              refine (HFC.out _ _ HC.out).mono ?_
              rintro ex wx8 ⟨rfl, hbx⟩
              have hzx := hbx.size
              have HN := bwt HN hbx
              have HA := Lib.hid (HA.out.below hbx)
              have HB' := Lib.hid (HB'.out.below hbx)
              have HC := Lib.hid (HC.out.below hbx)
              have hx9 := (hbx.block X9 l9).trans hx9
              have l9 := Nat.lt_of_lt_of_le l9 hbx.size
              clear hbx
              go_wp2_with fail
              refine tailL_mk HN.out ?_
              repeat (refine tree_head rfl ?_; (show wpQuiet _ _ _ _ (_ :: _) _; go_big_quiet_step (fail)); refine wpQuiet_nil ?_)
              refine tree_one rfl ?_
              obtain ⟨c90, c91, f90, f91⟩ := xcf2 hx9
              go_wp2_with fail
              have hq9 := xst2 HN.out hNX hx9 (.int .i64 N1) (.int .i64 D1)
              have HN := Lib.hid hq9.1
              have hxo := hx9
              have hx9 := hq9.2
              clear hq9
              refine tailL_mk HN.out ?_
              repeat (refine tree_head rfl ?_; (show wpQuiet _ _ _ _ (_ :: _) _; go_big_quiet_step (fail)); refine wpQuiet_nil ?_)
              refine tree_done ?_
              go_wp2_with fail
              go_meet
              case rel => exact ⟨X9, rfl, rfl, Lib.hid hx9, HN⟩
            ·go_wp2_with fail
             obtain ⟨X9, hX9, hNX, hx9, l9, hs9, hbx⟩ := xal HN.out (Obj.cells #[.int .i64 0, .int .i64 0] 107)
             try simp only [← hX9]
             generalize (wx2.alloc (Obj.cells #[.int .i64 0, .int .i64 0] 107)) = wx10 at *
             have HX9 := Lib.hid (And.intro hX9 hs9)
             have HN := bwt HN hbx
             have HA := Lib.hid (HA.out.below hbx)
             have HB' := Lib.hid (HB'.out.below hbx)
             clear hbx hX9 hs9
             refine tailL_mk HN.out ?_
             refine tree_one rfl ?_
             go_wp2_with fail
             refine (rb_mul _ _ _ _ 2 2 _ HA.out HB'.out HSZ.out HSZ.out (by omega)).mono ?_
             rintro ex wx11 ⟨sC, aC, nC, cC, tC, bC, mC, dC, rfl, hbx, hC, _⟩
             have HC := Lib.hid hC
             clear hC
             have hzx := hbx.size
             have HN := bwt HN hbx
             have HA := Lib.hid (HA.out.below hbx)
             have HB' := Lib.hid (HB'.out.below hbx)
             have hx9 := (hbx.block X9 l9).trans hx9
             have l9 := Nat.lt_of_lt_of_le l9 hbx.size
             clear hbx
             go_wp2_with fail
             refine tailL_mk HN.out ?_
             refine tree_one rfl ?_
             go_wp2_with fail
             refine (HFC.out _ _ HC.out).mono ?_
             rintro ex wx12 ⟨rfl, hbx⟩
             have hzx := hbx.size
             have HN := bwt HN hbx
             have HA := Lib.hid (HA.out.below hbx)
             have HB' := Lib.hid (HB'.out.below hbx)
             have HC := Lib.hid (HC.out.below hbx)
             have hx9 := (hbx.block X9 l9).trans hx9
             have l9 := Nat.lt_of_lt_of_le l9 hbx.size
             clear hbx
             go_wp2_with fail
             refine tailL_mk HN.out ?_
             repeat (refine tree_head rfl ?_; (show wpQuiet _ _ _ _ (_ :: _) _; go_big_quiet_step (fail)); refine wpQuiet_nil ?_)
             refine tree_one rfl ?_
             obtain ⟨c90, c91, f90, f91⟩ := xcf2 hx9
             go_wp2_with fail
             have hq9 := xst2 HN.out hNX hx9 (.int .i64 N1) (.int .i64 D1)
             have HN := Lib.hid hq9.1
             have hxo := hx9
             have hx9 := hq9.2
             clear hq9
             refine tailL_mk HN.out ?_
             repeat (refine tree_head rfl ?_; (show wpQuiet _ _ _ _ (_ :: _) _; go_big_quiet_step (fail)); refine wpQuiet_nil ?_)
             refine tree_done ?_
             go_wp2_with fail
             go_meet
             case rel => exact ⟨X9, rfl, rfl, Lib.hid hx9, HN⟩
           ·go_wp2_with fail
            obtain ⟨X9, hX9, hNX, hx9, l9, hs9, hbx⟩ := xal HN.out (Obj.cells #[.int .i64 0, .int .i64 0] 107)
            try simp only [← hX9]
            generalize (wx1.alloc (Obj.cells #[.int .i64 0, .int .i64 0] 107)) = wx14 at *
            have HX9 := Lib.hid (And.intro hX9 hs9)
            have HN := bwt HN hbx
            have HA := Lib.hid (HA.out.below hbx)
            clear hbx hX9 hs9
            refine tailL_mk HN.out ?_
            refine tree_one rfl ?_
            go_wp2_with fail
            refine (HFR.out _).mono ?_
            rintro ex wx15 ⟨sB, aB, nB, cB, tB, bB, mB, dB, rfl, hbx, hB, _⟩
            have HB' := Lib.hid hB
            clear hB
            have hzx := hbx.size
            have HN := bwt HN hbx
            have HA := Lib.hid (HA.out.below hbx)
            have hx9 := (hbx.block X9 l9).trans hx9
            have l9 := Nat.lt_of_lt_of_le l9 hbx.size
            clear hbx
            go_wp2_with fail
            refine tailL_mk HN.out ?_
            refine tree_one rfl ?_
            go_wp2_with fail
            refine (rb_mul _ _ _ _ 2 2 _ HA.out HB'.out HSZ.out HSZ.out (by omega)).mono ?_
            rintro ex wx16 ⟨sC, aC, nC, cC, tC, bC, mC, dC, rfl, hbx, hC, _⟩
            have HC := Lib.hid hC
            clear hC
            have hzx := hbx.size
            have HN := bwt HN hbx
            have HA := Lib.hid (HA.out.below hbx)
            have HB' := Lib.hid (HB'.out.below hbx)
            have hx9 := (hbx.block X9 l9).trans hx9
            have l9 := Nat.lt_of_lt_of_le l9 hbx.size
            clear hbx
            go_wp2_with fail
            refine tailL_mk HN.out ?_
            refine tree_one rfl ?_
            go_wp2_with fail
            refine (HFC.out _ _ HC.out).mono ?_
            rintro ex wx17 ⟨rfl, hbx⟩
            have hzx := hbx.size
            have HN := bwt HN hbx
            have HA := Lib.hid (HA.out.below hbx)
            have HB' := Lib.hid (HB'.out.below hbx)
            have HC := Lib.hid (HC.out.below hbx)
            have hx9 := (hbx.block X9 l9).trans hx9
            have l9 := Nat.lt_of_lt_of_le l9 hbx.size
            clear hbx
            go_wp2_with fail
            refine tailL_mk HN.out ?_
            repeat (refine tree_head rfl ?_; (show wpQuiet _ _ _ _ (_ :: _) _; go_big_quiet_step (fail)); refine wpQuiet_nil ?_)
            refine tree_one rfl ?_
            obtain ⟨c90, c91, f90, f91⟩ := xcf2 hx9
            go_wp2_with fail
            have hq9 := xst2 HN.out hNX hx9 (.int .i64 N1) (.int .i64 D1)
            have HN := Lib.hid hq9.1
            have hxo := hx9
            have hx9 := hq9.2
            clear hq9
            refine tailL_mk HN.out ?_
            repeat (refine tree_head rfl ?_; (show wpQuiet _ _ _ _ (_ :: _) _; go_big_quiet_step (fail)); refine wpQuiet_nil ?_)
            refine tree_done ?_
            go_wp2_with fail
            go_meet
            case rel => exact ⟨X9, rfl, rfl, Lib.hid hx9, HN⟩
          ·go_wp2_with fail
           obtain ⟨X9, hX9, hNX, hx9, l9, hs9, hbx, hbd⟩ := xald HN.out (Obj.cells #[.int .i64 0, .int .i64 0] 107)
           try simp only [← hX9]
           generalize (wy.alloc (Obj.cells #[.int .i64 0, .int .i64 0] 107)).drew = wx19 at *
           have HX9 := Lib.hid (And.intro hX9 hs9)
           have HN := Lib.hid hbx
           clear hbx hX9 hs9 hbd
           refine tailL_mk HN.out ?_
           refine tree_one rfl ?_
           go_wp2_with fail
           refine (HFR.out _).mono ?_
           rintro ex wx20 ⟨sA, aA, nA, cA, tA, bA, mA, dA, rfl, hbx, hA, _⟩
           have HA := Lib.hid hA
           clear hA
           have hzx := hbx.size
           have HN := bwt HN hbx
           have hx9 := (hbx.block X9 l9).trans hx9
           have l9 := Nat.lt_of_lt_of_le l9 hbx.size
           clear hbx
           go_wp2_with fail
           refine tailL_mk HN.out ?_
           refine tree_one rfl ?_
           go_wp2_with fail
           refine (HFR.out _).mono ?_
           rintro ex wx21 ⟨sB, aB, nB, cB, tB, bB, mB, dB, rfl, hbx, hB, _⟩
           have HB' := Lib.hid hB
           clear hB
           have hzx := hbx.size
           have HN := bwt HN hbx
           have HA := Lib.hid (HA.out.below hbx)
           have hx9 := (hbx.block X9 l9).trans hx9
           have l9 := Nat.lt_of_lt_of_le l9 hbx.size
           clear hbx
           go_wp2_with fail
           refine tailL_mk HN.out ?_
           refine tree_one rfl ?_
           go_wp2_with fail
           refine (rb_mul _ _ _ _ 2 2 _ HA.out HB'.out HSZ.out HSZ.out (by omega)).mono ?_
           rintro ex wx22 ⟨sC, aC, nC, cC, tC, bC, mC, dC, rfl, hbx, hC, _⟩
           have HC := Lib.hid hC
           clear hC
           have hzx := hbx.size
           have HN := bwt HN hbx
           have HA := Lib.hid (HA.out.below hbx)
           have HB' := Lib.hid (HB'.out.below hbx)
           have hx9 := (hbx.block X9 l9).trans hx9
           have l9 := Nat.lt_of_lt_of_le l9 hbx.size
           clear hbx
           go_wp2_with fail
           refine tailL_mk HN.out ?_
           refine tree_one rfl ?_
           go_wp2_with fail
           refine (HFC.out _ _ HC.out).mono ?_
           rintro ex wx23 ⟨rfl, hbx⟩
           have hzx := hbx.size
           have HN := bwt HN hbx
           have HA := Lib.hid (HA.out.below hbx)
           have HB' := Lib.hid (HB'.out.below hbx)
           have HC := Lib.hid (HC.out.below hbx)
           have hx9 := (hbx.block X9 l9).trans hx9
           have l9 := Nat.lt_of_lt_of_le l9 hbx.size
           clear hbx
           go_wp2_with fail
           refine tailL_mk HN.out ?_
           repeat (refine tree_head rfl ?_; (show wpQuiet _ _ _ _ (_ :: _) _; go_big_quiet_step (fail)); refine wpQuiet_nil ?_)
           refine tree_one rfl ?_
           obtain ⟨c90, c91, f90, f91⟩ := xcf2 hx9
           go_wp2_with fail
           have hq9 := xst2 HN.out hNX hx9 (.int .i64 N1) (.int .i64 D1)
           have HN := Lib.hid hq9.1
           have hxo := hx9
           have hx9 := hq9.2
           clear hq9
           refine tailL_mk HN.out ?_
           repeat (refine tree_head rfl ?_; (show wpQuiet _ _ _ _ (_ :: _) _; go_big_quiet_step (fail)); refine wpQuiet_nil ?_)
           refine tree_done ?_
           go_wp2_with fail
           go_meet
           case rel => exact ⟨X9, rfl, rfl, Lib.hid hx9, HN⟩
         case rest =>
          obtain ⟨wz, rfl⟩ : ∃ w', w' = wc := ⟨wc, rfl⟩
          obtain ⟨XB, rfl, rfl, KB, HQ8⟩ := hcut
          have hb8 := HQ8.out
          have HBr := Lib.hid (HBr.out.trans (hb8.mono (Nat.le_of_lt HRO.out.lt)))
          have HRO := Lib.hid (HRO.out.below hb8)
          have HBw := bwt HBw hb8
          clear hb8 HQ8 K9 y0 y1 y2 y3 l9 HFR HSZ HFC
          cases SM
          ·have HW3 := Lib.hid (HW2.out.trans (if_pos rfl))
           have hx1 := HX.out
           rw [← HL.out] at hx1
           rw [firstAt_hit (k := k) (by rw [HW3.out]; decide) c.length 0 (by omega) (by rw [HCL.out]; omega) (fun i _ hi => HWE.out i hi), HW3.out] at hx1
           injection hx1 with hx1 hx2
           have hv1 := HV.out
           rw [if_pos (by rw [hx2]; show (8 : Int) ≠ 0; decide)] at hv1
           clear HX HV
           go_wp2
           go_ret3
           obtain rfl : XI = 0 := hx1
           obtain rfl : XE = 8 := hx2
           first | exact ⟨none, 0, 0, rfl, HBw.out, by rw [hv1]; exact SlR.nil _ _ _⟩ | exact ⟨none, 0, ⟨0, rfl⟩, HBw.out, by first | exact SlR.nil _ _ _ | (rw [hv1]; exact SlR.nil _ _ _)⟩
          ·have HW3 := Lib.hid (HW2.out.trans (if_neg (by decide)))
           have hzn : N1 = ZZ.num := HN1.out.trans (if_pos rfl)
           have hzd : D1 = (ZZ.den : Int) := HD1.out.trans (if_pos rfl)
           have hqs := weQ_small (m := m) (l := L) (c := c) (load := load) HWE.out xn
           rw [smallQ_frR, Bool.and_eq_true, wi_iff, decide_eq_true_eq] at hqs
           have hzs := HSM.out
           rw [smallQ_frR, Bool.and_eq_true, wi_iff, decide_eq_true_eq] at hzs
           obtain ⟨hrl, hrg⟩ : ((weQ m L c load k).map frR).length = nb ∧ ((weQ m L c load k).map frR).getD xn (0, 0) = frR ((weQ m L c load k).getD xn 0) := by
            have hl := weQ_len m L c load k
            rw [HLN.out] at hl
            refine ⟨by rw [List.length_map]; exact hl, ?_⟩
            rw [List.getD_eq_getElem?_getD, List.getD_eq_getElem?_getD, List.getElem?_map, List.getElem?_eq_getElem (by omega)]
            rfl
           obtain ⟨pg0, pg1⟩ := pcells_get ((weQ m L c load k).map frR) xn (by rw [hrl]; exact hxn)
           rw [hrg] at pg0 pg1
           have hW1 := HW1.out
           generalize hQ : (weQ m L c load k).getD xn 0 = Q at *
           have hqd : (0 : Int) < Q.den := by have := Q.den_pos; omega
           have hzd0 : (0 : Int) < ZZ.den := by have := ZZ.den_pos; omega
           have hqn : -1000000000 ≤ Q.num ∧ Q.num ≤ 1000000000 ∧ (Q.den : Int) ≤ 1000000000 := by
            unfold frR at hqs; exact ⟨hqs.1.1, hqs.1.2, hqs.2⟩
           have hzq : -1000000000 ≤ ZZ.num ∧ ZZ.num ≤ 1000000000 ∧ (ZZ.den : Int) ≤ 1000000000 := by
            unfold frR at hzs; exact ⟨hzs.1.1, hzs.1.2, hzs.2⟩
           have pgq : frR Q = (Q.num, (Q.den : Int)) := rfl
           rw [pgq] at pg0 pg1
           simp only at pg0 pg1
           have HGA := Lib.hid (fun W => show Calls Tryz.prog 95 #[.agg #[.int .i64 Q.num, .int .i64 (Q.den : Int)]] W (RBPost W Q) from by have h := rb_from Q.num (Q.den : Int) W (by omega) (by omega) (by omega) (by omega) (by omega); rwa [Rat.num_divInt_den] at h)
           have HGB := Lib.hid (fun W => show Calls Tryz.prog 95 #[.agg #[.int .i64 N1, .int .i64 D1]] W (RBPost W ZZ) from by rw [hzn, hzd]; have h := rb_from ZZ.num (ZZ.den : Int) W (by omega) (by omega) (by omega) (by omega) (by omega); rwa [Rat.num_divInt_den] at h)
           have HSZ2 := Lib.hid (show Sz 2 Q ∧ Sz 2 ZZ from ⟨by rw [← Rat.num_divInt_den Q]; exact sz_parts (by omega) (by omega), by rw [← Rat.num_divInt_den ZZ]; exact sz_parts (by omega) (by omega)⟩)
           obtain ⟨N2, hN2⟩ : ∃ x, x = if smallQ (Q + ZZ) = true then (Q + ZZ).num else 0 := ⟨_, rfl⟩
           obtain ⟨D2, hD2⟩ : ∃ x, x = if smallQ (Q + ZZ) = true then ((Q + ZZ).den : Int) else 0 := ⟨_, rfl⟩
           have HGC := Lib.hid (fun (v : Value) (W : World) (h : RB W v (Q + ZZ)) => show Calls Tryz.prog 93 #[v] W (fun e' w' => e' = .returned (.tuple #[.agg #[.int .i64 N2, .int .i64 D2], .bool (smallQ (Q + ZZ))]) ∧ Below W.heap.size W w') from by rw [hN2, hD2]; exact rb_frac _ _ _ h)
           have HSET := Lib.hid (show (pcells (((weQ m L c load k).map frR).set xn (frR (Q + ZZ)))).toArray = (pcells ((weQ m L c load (k + 1)).map frR)).toArray from by rw [hW1, List.map_set])
           have HN2 := Lib.hid hN2
           have HD2 := Lib.hid hD2
           generalize hS2 : smallQ (Q + ZZ) = S2 at *
           have HS2 := Lib.hid hS2
           generalize Q.num = O1 at *
           generalize (Q.den : Int) = O2 at *
           have cg0 := cell_of_row _ _ (xn * 2) _ _ _ HRO.out
           have cg1 := cell_of_row _ _ (xn * 2 + 1) _ _ _ HRO.out
           rw [List.getElem?_toArray] at cg0 cg1
           rw [pg0] at cg0
           rw [pg1] at cg1
           have lg := HRO.out.lt
           have m0 : (0 : Int) ≤ (xn : Int) := by omega
           have m1 : (xn : Int) < (nb : Int) := by omega
           obtain ⟨y0, y1, l9⟩ := blkc2 KB.out
           clear pg0 pg1 hqs hzs hqn hzq hqd hzd0 hzn hzd hN2 hD2 hS2 hrl hrg pgq hQ hW1
           go_wp2_with fail
           go_cut [22, 23] from 97 to 109 (fun v18 v19 wx => ∃ X9 : Nat, v18 = .pointer (some ⟨X9, 0, none⟩) ∧ v19 = .bool S2 ∧ Hid (BlkR wx X9 (.cells #[.int .i64 N2, .int .i64 D2] 107)) ∧ Hid (Below wz.heap.size wz wx))
           case first =>
            have HN := Lib.hid (Below.refl wz.heap.size wz).drew
            refine wp_region_laterT (B := wz.heap.size) (.head 0 (.head 1 (.head 2 (.head 3 (.head 5 (.two 4 (.two 6 (.two 7 (.two 8 (.head 9 (.head 10 (.head 11 (.one 12 (.one 13 (.head 14 .done)))))) 12 (.one 8 (.head 9 (.head 10 (.head 11 (.one 13 (.head 14 .done))))))) 12 (.one 7 (.one 8 (.head 9 (.head 10 (.head 11 (.one 13 (.head 14 .done)))))))) 12 (.one 6 (.one 7 (.one 8 (.head 9 (.head 10 (.head 11 (.one 13 (.head 14 .done))))))))) 12 (.one 4 (.one 6 (.one 7 (.one 8 (.head 9 (.head 10 (.head 11 (.one 13 (.head 14 .done))))))))))))))) (by kernel_rfl) (by kernel_rfl) ?_
            repeat (refine tree_head rfl ?_; (show wpQuiet _ _ _ _ (_ :: _) _; go_big_quiet_step (fail)); refine wpQuiet_nil ?_)
            refine tree_two rfl rfl ?_ ?_
            ·go_wp2_with fail
             refine (HGA.out _).mono ?_
             rintro ex wx1 ⟨sA, aA, nA, cA, tA, bA, mA, dA, rfl, hbx, hA, _⟩
             have HA := Lib.hid hA
             clear hA
             have hzx := hbx.size
             have HN := bwt HN hbx
             clear hbx
             go_wp2_with fail
             refine tailL_mk HN.out ?_
             refine tree_two rfl rfl ?_ ?_
             ·go_wp2_with fail
              refine (HGB.out _).mono ?_
              rintro ex wx2 ⟨sB, aB, nB, cB, tB, bB, mB, dB, rfl, hbx, hB, _⟩
              have HB' := Lib.hid hB
              clear hB
              have hzx := hbx.size
              have HN := bwt HN hbx
              have HA := Lib.hid (HA.out.below hbx)
              clear hbx
              go_wp2_with fail
              refine tailL_mk HN.out ?_
              refine tree_two rfl rfl ?_ ?_
              ·go_wp2_with fail
               refine (rb_add _ _ _ _ 2 2 _ HA.out HB'.out HSZ2.out.1 HSZ2.out.2 (by omega)).mono ?_
               rintro ex wx3 ⟨sC, aC, nC, cC, tC, bC, mC, dC, rfl, hbx, hC, _⟩
               have HC := Lib.hid hC
               clear hC
               have hzx := hbx.size
               have HN := bwt HN hbx
               have HA := Lib.hid (HA.out.below hbx)
               have HB' := Lib.hid (HB'.out.below hbx)
               clear hbx
               go_wp2_with fail
               refine tailL_mk HN.out ?_
               refine tree_two rfl rfl ?_ ?_
               ·go_wp2_with fail
                refine (HGC.out _ _ HC.out).mono ?_
                rintro ex wx4 ⟨rfl, hbx⟩
                have hzx := hbx.size
                have HN := bwt HN hbx
                have HA := Lib.hid (HA.out.below hbx)
                have HB' := Lib.hid (HB'.out.below hbx)
                have HC := Lib.hid (HC.out.below hbx)
                clear hbx
                go_wp2_with fail
                refine tailL_mk HN.out ?_
                repeat (refine tree_head rfl ?_; (show wpQuiet _ _ _ _ (_ :: _) _; go_big_quiet_step (fail)); refine wpQuiet_nil ?_)
                refine tree_one rfl ?_
                go_wp2_with fail
                obtain ⟨X9, hX9, hNX, hx9, l9, hs9, hbx⟩ := xal HN.out (Obj.cells #[.int .i64 0, .int .i64 0] 107)
                try simp only [← hX9]
                generalize (wx4.alloc (Obj.cells #[.int .i64 0, .int .i64 0] 107)) = wx5 at *
                have HX9 := Lib.hid (And.intro hX9 hs9)
                have HN := bwt HN hbx
                have HA := Lib.hid (HA.out.below hbx)
                have HB' := Lib.hid (HB'.out.below hbx)
                have HC := Lib.hid (HC.out.below hbx)
                clear hbx hX9 hs9
                refine tailL_mk HN.out ?_
                refine tree_one rfl ?_
                obtain ⟨c90, c91, f90, f91⟩ := xcf2 hx9
                go_wp2_with fail
                have hq9 := xst2 HN.out hNX hx9 (.int .i64 N2) (.int .i64 D2)
                have HN := Lib.hid hq9.1
                have hxo := hx9
                have hx9 := hq9.2
                clear hq9
                refine tailL_mk HN.out ?_
                repeat (refine tree_head rfl ?_; (show wpQuiet _ _ _ _ (_ :: _) _; go_big_quiet_step (fail)); refine wpQuiet_nil ?_)
                refine tree_done ?_
                go_wp2_with fail
                go_meet
                case rel => exact ⟨X9, rfl, rfl, Lib.hid hx9, HN⟩
               ·go_wp2_with fail
                obtain ⟨X9, hX9, hNX, hx9, l9, hs9, hbx⟩ := xal HN.out (Obj.cells #[.int .i64 0, .int .i64 0] 107)
                try simp only [← hX9]
                generalize (wx3.alloc (Obj.cells #[.int .i64 0, .int .i64 0] 107)) = wx7 at *
                have HX9 := Lib.hid (And.intro hX9 hs9)
                have HN := bwt HN hbx
                have HA := Lib.hid (HA.out.below hbx)
                have HB' := Lib.hid (HB'.out.below hbx)
                have HC := Lib.hid (HC.out.below hbx)
                clear hbx hX9 hs9
                refine tailL_mk HN.out ?_
                refine tree_one rfl ?_
                go_wp2_with fail
                refine (HGC.out _ _ HC.out).mono ?_
                rintro ex wx8 ⟨rfl, hbx⟩
                have hzx := hbx.size
                have HN := bwt HN hbx
                have HA := Lib.hid (HA.out.below hbx)
                have HB' := Lib.hid (HB'.out.below hbx)
                have HC := Lib.hid (HC.out.below hbx)
                have hx9 := (hbx.block X9 l9).trans hx9
                have l9 := Nat.lt_of_lt_of_le l9 hbx.size
                clear hbx
                go_wp2_with fail
                refine tailL_mk HN.out ?_
                repeat (refine tree_head rfl ?_; (show wpQuiet _ _ _ _ (_ :: _) _; go_big_quiet_step (fail)); refine wpQuiet_nil ?_)
                refine tree_one rfl ?_
                obtain ⟨c90, c91, f90, f91⟩ := xcf2 hx9
                go_wp2_with fail
                have hq9 := xst2 HN.out hNX hx9 (.int .i64 N2) (.int .i64 D2)
                have HN := Lib.hid hq9.1
                have hxo := hx9
                have hx9 := hq9.2
                clear hq9
                refine tailL_mk HN.out ?_
                repeat (refine tree_head rfl ?_; (show wpQuiet _ _ _ _ (_ :: _) _; go_big_quiet_step (fail)); refine wpQuiet_nil ?_)
                refine tree_done ?_
                go_wp2_with fail
                go_meet
                case rel => exact ⟨X9, rfl, rfl, Lib.hid hx9, HN⟩
              ·go_wp2_with fail
               obtain ⟨X9, hX9, hNX, hx9, l9, hs9, hbx⟩ := xal HN.out (Obj.cells #[.int .i64 0, .int .i64 0] 107)
               try simp only [← hX9]
               generalize (wx2.alloc (Obj.cells #[.int .i64 0, .int .i64 0] 107)) = wx10 at *
               have HX9 := Lib.hid (And.intro hX9 hs9)
               have HN := bwt HN hbx
               have HA := Lib.hid (HA.out.below hbx)
               have HB' := Lib.hid (HB'.out.below hbx)
               clear hbx hX9 hs9
               refine tailL_mk HN.out ?_
               refine tree_one rfl ?_
               go_wp2_with fail
               refine (rb_add _ _ _ _ 2 2 _ HA.out HB'.out HSZ2.out.1 HSZ2.out.2 (by omega)).mono ?_
               rintro ex wx11 ⟨sC, aC, nC, cC, tC, bC, mC, dC, rfl, hbx, hC, _⟩
               have HC := Lib.hid hC
               clear hC
               have hzx := hbx.size
               have HN := bwt HN hbx
               have HA := Lib.hid (HA.out.below hbx)
               have HB' := Lib.hid (HB'.out.below hbx)
               have hx9 := (hbx.block X9 l9).trans hx9
               have l9 := Nat.lt_of_lt_of_le l9 hbx.size
               clear hbx
               go_wp2_with fail
               refine tailL_mk HN.out ?_
               refine tree_one rfl ?_
               go_wp2_with fail
               refine (HGC.out _ _ HC.out).mono ?_
               rintro ex wx12 ⟨rfl, hbx⟩
               have hzx := hbx.size
               have HN := bwt HN hbx
               have HA := Lib.hid (HA.out.below hbx)
               have HB' := Lib.hid (HB'.out.below hbx)
               have HC := Lib.hid (HC.out.below hbx)
               have hx9 := (hbx.block X9 l9).trans hx9
               have l9 := Nat.lt_of_lt_of_le l9 hbx.size
               clear hbx
               go_wp2_with fail
               refine tailL_mk HN.out ?_
               repeat (refine tree_head rfl ?_; (show wpQuiet _ _ _ _ (_ :: _) _; go_big_quiet_step (fail)); refine wpQuiet_nil ?_)
               refine tree_one rfl ?_
               obtain ⟨c90, c91, f90, f91⟩ := xcf2 hx9
               go_wp2_with fail
               have hq9 := xst2 HN.out hNX hx9 (.int .i64 N2) (.int .i64 D2)
               have HN := Lib.hid hq9.1
               have hxo := hx9
               have hx9 := hq9.2
               clear hq9
               refine tailL_mk HN.out ?_
               repeat (refine tree_head rfl ?_; (show wpQuiet _ _ _ _ (_ :: _) _; go_big_quiet_step (fail)); refine wpQuiet_nil ?_)
               refine tree_done ?_
               go_wp2_with fail
               go_meet
               case rel => exact ⟨X9, rfl, rfl, Lib.hid hx9, HN⟩
             ·go_wp2_with fail
              obtain ⟨X9, hX9, hNX, hx9, l9, hs9, hbx⟩ := xal HN.out (Obj.cells #[.int .i64 0, .int .i64 0] 107)
              try simp only [← hX9]
              generalize (wx1.alloc (Obj.cells #[.int .i64 0, .int .i64 0] 107)) = wx14 at *
              have HX9 := Lib.hid (And.intro hX9 hs9)
              have HN := bwt HN hbx
              have HA := Lib.hid (HA.out.below hbx)
              clear hbx hX9 hs9
              refine tailL_mk HN.out ?_
              refine tree_one rfl ?_
              go_wp2_with fail
              refine (HGB.out _).mono ?_
              rintro ex wx15 ⟨sB, aB, nB, cB, tB, bB, mB, dB, rfl, hbx, hB, _⟩
              have HB' := Lib.hid hB
              clear hB
              have hzx := hbx.size
              have HN := bwt HN hbx
              have HA := Lib.hid (HA.out.below hbx)
              have hx9 := (hbx.block X9 l9).trans hx9
              have l9 := Nat.lt_of_lt_of_le l9 hbx.size
              clear hbx
              go_wp2_with fail
              refine tailL_mk HN.out ?_
              refine tree_one rfl ?_
              go_wp2_with fail
              refine (rb_add _ _ _ _ 2 2 _ HA.out HB'.out HSZ2.out.1 HSZ2.out.2 (by omega)).mono ?_
              rintro ex wx16 ⟨sC, aC, nC, cC, tC, bC, mC, dC, rfl, hbx, hC, _⟩
              have HC := Lib.hid hC
              clear hC
              have hzx := hbx.size
              have HN := bwt HN hbx
              have HA := Lib.hid (HA.out.below hbx)
              have HB' := Lib.hid (HB'.out.below hbx)
              have hx9 := (hbx.block X9 l9).trans hx9
              have l9 := Nat.lt_of_lt_of_le l9 hbx.size
              clear hbx
              go_wp2_with fail
              refine tailL_mk HN.out ?_
              refine tree_one rfl ?_
              go_wp2_with fail
              refine (HGC.out _ _ HC.out).mono ?_
              rintro ex wx17 ⟨rfl, hbx⟩
              have hzx := hbx.size
              have HN := bwt HN hbx
              have HA := Lib.hid (HA.out.below hbx)
              have HB' := Lib.hid (HB'.out.below hbx)
              have HC := Lib.hid (HC.out.below hbx)
              have hx9 := (hbx.block X9 l9).trans hx9
              have l9 := Nat.lt_of_lt_of_le l9 hbx.size
              clear hbx
              go_wp2_with fail
              refine tailL_mk HN.out ?_
              repeat (refine tree_head rfl ?_; (show wpQuiet _ _ _ _ (_ :: _) _; go_big_quiet_step (fail)); refine wpQuiet_nil ?_)
              refine tree_one rfl ?_
              obtain ⟨c90, c91, f90, f91⟩ := xcf2 hx9
              go_wp2_with fail
              have hq9 := xst2 HN.out hNX hx9 (.int .i64 N2) (.int .i64 D2)
              have HN := Lib.hid hq9.1
              have hxo := hx9
              have hx9 := hq9.2
              clear hq9
              refine tailL_mk HN.out ?_
              repeat (refine tree_head rfl ?_; (show wpQuiet _ _ _ _ (_ :: _) _; go_big_quiet_step (fail)); refine wpQuiet_nil ?_)
              refine tree_done ?_
              go_wp2_with fail
              go_meet
              case rel => exact ⟨X9, rfl, rfl, Lib.hid hx9, HN⟩
            ·go_wp2_with fail
             obtain ⟨X9, hX9, hNX, hx9, l9, hs9, hbx, hbd⟩ := xald HN.out (Obj.cells #[.int .i64 0, .int .i64 0] 107)
             try simp only [← hX9]
             generalize (wz.alloc (Obj.cells #[.int .i64 0, .int .i64 0] 107)).drew = wx19 at *
             have HX9 := Lib.hid (And.intro hX9 hs9)
             have HN := Lib.hid hbx
             clear hbx hX9 hs9 hbd
             refine tailL_mk HN.out ?_
             refine tree_one rfl ?_
             go_wp2_with fail
             refine (HGA.out _).mono ?_
             rintro ex wx20 ⟨sA, aA, nA, cA, tA, bA, mA, dA, rfl, hbx, hA, _⟩
             have HA := Lib.hid hA
             clear hA
             have hzx := hbx.size
             have HN := bwt HN hbx
             have hx9 := (hbx.block X9 l9).trans hx9
             have l9 := Nat.lt_of_lt_of_le l9 hbx.size
             clear hbx
             go_wp2_with fail
             refine tailL_mk HN.out ?_
             refine tree_one rfl ?_
             go_wp2_with fail
             refine (HGB.out _).mono ?_
             rintro ex wx21 ⟨sB, aB, nB, cB, tB, bB, mB, dB, rfl, hbx, hB, _⟩
             have HB' := Lib.hid hB
             clear hB
             have hzx := hbx.size
             have HN := bwt HN hbx
             have HA := Lib.hid (HA.out.below hbx)
             have hx9 := (hbx.block X9 l9).trans hx9
             have l9 := Nat.lt_of_lt_of_le l9 hbx.size
             clear hbx
             go_wp2_with fail
             refine tailL_mk HN.out ?_
             refine tree_one rfl ?_
             go_wp2_with fail
             refine (rb_add _ _ _ _ 2 2 _ HA.out HB'.out HSZ2.out.1 HSZ2.out.2 (by omega)).mono ?_
             rintro ex wx22 ⟨sC, aC, nC, cC, tC, bC, mC, dC, rfl, hbx, hC, _⟩
             have HC := Lib.hid hC
             clear hC
             have hzx := hbx.size
             have HN := bwt HN hbx
             have HA := Lib.hid (HA.out.below hbx)
             have HB' := Lib.hid (HB'.out.below hbx)
             have hx9 := (hbx.block X9 l9).trans hx9
             have l9 := Nat.lt_of_lt_of_le l9 hbx.size
             clear hbx
             go_wp2_with fail
             refine tailL_mk HN.out ?_
             refine tree_one rfl ?_
             go_wp2_with fail
             refine (HGC.out _ _ HC.out).mono ?_
             rintro ex wx23 ⟨rfl, hbx⟩
             have hzx := hbx.size
             have HN := bwt HN hbx
             have HA := Lib.hid (HA.out.below hbx)
             have HB' := Lib.hid (HB'.out.below hbx)
             have HC := Lib.hid (HC.out.below hbx)
             have hx9 := (hbx.block X9 l9).trans hx9
             have l9 := Nat.lt_of_lt_of_le l9 hbx.size
             clear hbx
             go_wp2_with fail
             refine tailL_mk HN.out ?_
             repeat (refine tree_head rfl ?_; (show wpQuiet _ _ _ _ (_ :: _) _; go_big_quiet_step (fail)); refine wpQuiet_nil ?_)
             refine tree_one rfl ?_
             obtain ⟨c90, c91, f90, f91⟩ := xcf2 hx9
             go_wp2_with fail
             have hq9 := xst2 HN.out hNX hx9 (.int .i64 N2) (.int .i64 D2)
             have HN := Lib.hid hq9.1
             have hxo := hx9
             have hx9 := hq9.2
             clear hq9
             refine tailL_mk HN.out ?_
             repeat (refine tree_head rfl ?_; (show wpQuiet _ _ _ _ (_ :: _) _; go_big_quiet_step (fail)); refine wpQuiet_nil ?_)
             refine tree_done ?_
             go_wp2_with fail
             go_meet
             case rel => exact ⟨X9, rfl, rfl, Lib.hid hx9, HN⟩
           case rest =>
            obtain ⟨wv, rfl⟩ : ∃ w', w' = wc := ⟨wc, rfl⟩
            obtain ⟨XD, rfl, rfl, KD, HQ9⟩ := hcut
            have hb9 := HQ9.out
            have HBr := Lib.hid (HBr.out.trans (hb9.mono (Nat.le_of_lt HRO.out.lt)))
            have cg0' : wv.cell? ⟨g, xn * 2, none⟩ = some (.int .i64 O1) := by rw [cellB hb9 _ _ lg]; exact cg0
            have cg1' : wv.cell? ⟨g, xn * 2 + 1, none⟩ = some (.int .i64 O2) := by rw [cellB hb9 _ _ lg]; exact cg1
            have HRO := Lib.hid (HRO.out.below hb9)
            have HBw := bwt HBw hb9
            clear hb9 HQ9 KB y0 y1 l9 HGA HGB HSZ2 HGC cg0 cg1 lg
            cases S2
            ·have HW4 := Lib.hid (HW3.out.trans (if_pos rfl))
             have hx1 := HX.out
             rw [← HL.out] at hx1
             rw [firstAt_hit (k := k) (by rw [HW4.out]; decide) c.length 0 (by omega) (by rw [HCL.out]; omega) (fun i _ hi => HWE.out i hi), HW4.out] at hx1
             injection hx1 with hx1 hx2
             have hv1 := HV.out
             rw [if_pos (by rw [hx2]; show (8 : Int) ≠ 0; decide)] at hv1
             clear HX HV
             go_wp2
             go_ret3
             obtain rfl : XI = 0 := hx1
             obtain rfl : XE = 8 := hx2
             first | exact ⟨none, 0, 0, rfl, HBw.out, by rw [hv1]; exact SlR.nil _ _ _⟩ | exact ⟨none, 0, ⟨0, rfl⟩, HBw.out, by first | exact SlR.nil _ _ _ | (rw [hv1]; exact SlR.nil _ _ _)⟩
            ·have HW4 := Lib.hid (HW3.out.trans (if_neg (by decide)))
             have hfr : frR (Q + ZZ) = (N2, D2) := by
              rw [HN2.out, HD2.out, if_pos rfl, if_pos rfl]
              rfl
             have fg0 := frozen_of_row _ _ (xn * 2) _ _ HRO.out
             have fg1 := frozen_of_row _ _ (xn * 2 + 1) _ _ HRO.out
             have lg := HRO.out.lt
             obtain ⟨y0, y1, l9⟩ := blkc2 KD.out
             have kw := blk_pset HRO.out xn (N2, D2)
             rw [← hfr, HSET.out] at kw
             rw [hfr] at kw
             simp only at kw
             have KW := Lib.hid kw
             have HBq := Lib.hid ((HBr.out.setCell (p := ⟨g, xn * 2, none⟩) (Nat.le_refl _) (.int .i64 N2)).setCell (p := ⟨g, xn * 2 + 1, none⟩) (Nat.le_refl _) (.int .i64 D2))
             clear hfr kw
             go_wp2
             refine ⟨⟨k + 1, by go_num, by omega, Lib.hid (fun j hj => by
              by_cases hjk : j = k
              ·subst hjk; exact HW4.out
              ·exact HWE.out j (by omega)), KW, HBq⟩, ?_⟩
             simp only [intOf]; omega
      ·obtain rfl : k = n := by omega
       have hx1 := HX.out
       rw [← HL.out] at hx1
       have hfa : (firstAt (weE m L c load) c.length 0).2 = 0 := by
        have key : ∀ q j, (∀ i, j ≤ i → i < j + q → weE m L c load i = 0) → (firstAt (weE m L c load) q j).2 = 0 := by
         intro q
         induction q with
         | zero => intro j _; rfl
         | succ q ih =>
          intro j h
          unfold firstAt
          rw [if_neg (by rw [h j (Nat.le_refl _) (by omega)]; exact fun h => h rfl)]
          exact ih (j + 1) (fun i h1 h2 => h i (by omega) (by omega))
        exact key _ _ (fun i _ hi => HWE.out i (by rw [HCL.out] at hi; omega))
       rw [hfa] at hx1
       injection hx1 with hx1 hx2
       have hv1 := HV.out
       rw [if_neg (by rw [hx2]; exact fun h => h rfl), ← HL.out, HCL.out] at hv1
       have hqs : nb = ((weQ m L c load k).map frR).length := by rw [List.length_map, weQ_len]; exact HLN.out.symm
       have HQS := Lib.hid hqs
       have HV1 := Lib.hid hv1
       have hbf := HBw.out
       have i1 : ¬ ((k : Int) < (k : Int)) := by omega
       have hro := slr_of_blkW HRO.out (by simp only [List.size_toArray, pcells_length]; rw [← HQS.out]) (by unfold maxLen; omega)
       clear HX HV hfa hqs hv1
       go_wp2
       go_ret3
       obtain rfl : XI = 0 := hx1
       obtain rfl : XE = 0 := hx2
       first | exact ⟨_, _, _, rfl, hbf, by rw [HV1.out]; exact hro⟩ | exact ⟨_, _, ⟨_, rfl⟩, hbf, by rw [HV1.out]; exact hro⟩
end Go.Proofs.YtppkckbnjnenfaaGreat
