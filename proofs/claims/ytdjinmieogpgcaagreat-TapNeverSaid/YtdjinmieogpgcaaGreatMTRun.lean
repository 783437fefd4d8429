import Derived.Test.YtdjinmieogpgcaaGreatMTElc
/- Runs: the program. -/
namespace Go.Proofs.YtdjinmieogpgcaaGreat
open Go.RowKit Go.Shelf
set_option linter.unusedVariables false
set_option linter.unusedSimpArgs false
attribute [local go_sem] Oper.semAt_some
def runS (m : Mac) (c : List Int) : Nat → Nat
 | 0 => m.st.toNat
 | k + 1 => trn (runS m c k) (c.getD k 0).toNat
def runE (m : Mac) (l : Lim) (c : List Int) (k : Nat) : Int := if conE m.br.length (c.getD k 0) ≠ 0 then conE m.br.length (c.getD k 0) else chgE m l (runS m c k) (c.getD k 0).toNat
def runH (m : Mac) (l : Lim) (n : Nat) : Int := firstErr [unl (decide ((n : Int) ≤ 40)) 8, safE m l m.st.toNat]
def runL (m : Mac) (c : List Int) (n : Nat) : List Nat := (List.range (n + 1)).map (runS m c)
def runX (m : Mac) (l : Lim) (c : List Int) : Int × Int := if runH m l c.length ≠ 0 then (0, runH m l c.length) else firstAt (runE m l c) c.length 0
def runV (m : Mac) (l : Lim) (c : List Int) : List Nat := if (runX m l c).2 ≠ 0 then [] else runL m c c.length
theorem runL_succ (m : Mac) (c : List Int) (n : Nat) : runL m c (n + 1) = runL m c n ++ [runS m c (n + 1)] := by unfold runL; rw [List.range_succ, List.map_append]; rfl
theorem runS_lt {m : Mac} (hm : MacV m) {c : List Int} : ∀ k, (∀ j, j < k → conE m.br.length (c.getD j 0) = 0) → runS m c k < 2 ^ m.br.length
 | 0, _ => by
  have h := hm.st
  have : ((2 ^ m.br.length : Nat) : Int) = (2 : Int) ^ m.br.length := by push_cast; rfl
  show m.st.toNat < _
  omega
 | k + 1, h => by
  have ih := runS_lt hm k (fun j hj => h j (by omega))
  have hc := conE_zero.1 (h k (by omega))
  exact trn_lt hm.n1 ih (by omega)
theorem infoSet2 : (Tryz.prog.info? 117).map (fun i => (i.zero, i.size, i.bytes)) = some (some (.int .i64 0), 1, 8) := by kernel_rfl
set_option maxHeartbeats 2000000 in
set_option maxRecDepth 100000 in
theorem run_any (m : Mac) (l : Lim) (c : List Int) (ac ab ag : Option Addr) (n cc nb cb ng cg : Nat) (w : World) (hm : MacV m) (hl : limE l = 0) (hb : BrR w ab nb m.br) (hg : GrR w ag ng m.gs) (hc : IntsR w ac n c) :
    Calls Tryz.prog 63 #[.agg #[.slice ab nb cb, .int .i64 m.st, .slice ag ng cg, .int .i64 l.volt, .int .i64 l.lo, .int .i64 l.hi, .int .i64 l.circ, .int .i64 l.brk, .int .i64 l.ret], .slice ac n cc] w
     fun e' w' => ∃ a' n' c', e' = .returned (.tuple #[.slice a' n' c', .int .i64 (runX m l c).1, .int .i64 (runX m l c).2]) ∧ Below w.heap.size w w' ∧ IntsR w' a' n' (nats (runV m l c)) := by
 have hlen := hb.len
 have hcl := hc.len
 have hn6 : nb ≤ 6 := by rw [← hlen]; exact hm.n1
 have hst := hm.st
 have hsn : ((m.st.toNat : Nat) : Int) = m.st := by omega
 have hs0 : m.st.toNat < 2 ^ nb := by rw [← hlen]; exact runS_lt hm (c := c) 0 (fun j h => absurd h (by omega))
 have HSF := Lib.hid (fun (W : World) (hbw : Below w.heap.size w W) => show Calls Tryz.prog 62 #[.agg #[.slice ab nb cb, .int .i64 m.st, .slice ag ng cg, .int .i64 l.volt, .int .i64 l.lo, .int .i64 l.hi, .int .i64 l.circ, .int .i64 l.brk, .int .i64 l.ret], .int .i64 m.st] W (fun e' w' => e' = .returned (.int .i64 (safE m l m.st.toNat)) ∧ Below W.heap.size W w') from by
  have h := safe_any m l m.st.toNat ab ag nb cb ng cg W hm hl (hb.below hbw) hs0
  rwa [hsn] at h)
 have HUN := Lib.hid (fun (W : World) (b : Bool) => t_unless_any b 8 W)
 have HCO := Lib.hid (fun (x : Int) (W : World) => m_conE_any m.st nb cb ng cg ab ag x W (by omega))
 have HCG := Lib.hid (fun (s i : Nat) (hs : s < 2 ^ nb) (hi : i < nb) (W : World) (hbw : Below w.heap.size w W) => change_any m l s i ab ag nb cb ng cg W hm hl (hb.below hbw) (hg.below hbw) hs hi)
 have HTU := Lib.hid (fun (s i : Nat) (hs : s < 64) (hi : i < 6) w' => show Calls Tryz.prog 79 #[.int .i64 (s : Int), .int .i64 (i : Int)] w' (fun e1 w1 => e1 = .returned (.int .i64 ((trn s i : Nat) : Int)) ∧ w' = w1) from turned_any s i w' hs hi)
 have HIN := Lib.hid (fun (W : World) (hbw : Below w.heap.size w W) => hc.below hbw)
 have HLT := Lib.hid (fun k h => by have := runS_lt hm (c := c) k h; rwa [hlen] at this)
 have hX : runX m l c = if runH m l n ≠ 0 then (0, runH m l n) else firstAt (runE m l c) n 0 := by unfold runX; rw [hcl]
 have hV : runV m l c = if (runX m l c).2 ≠ 0 then [] else runL m c n := by unfold runV; rw [hcl]
 have HRH := Lib.hid (show runH m l n = firstErr [unl (decide ((n : Int) ≤ 40)) 8, safE m l m.st.toNat] from rfl)
 have HN40 := Lib.hid (fun (h : runH m l n = 0) => show n ≤ 40 from by
  by_cases hn : (n : Int) ≤ 40
  ·omega
  ·unfold runH at h; rw [decide_eq_false hn] at h; simp [firstErr, unl] at h)
 have HRE := Lib.hid (fun k => show runE m l c k = if conE nb (c.getD k 0) ≠ 0 then conE nb (c.getD k 0) else chgE m l (runS m c k) (c.getD k 0).toNat from by unfold runE; rw [hlen])
 have HS0 := Lib.hid (show ((runS m c 0 : Nat) : Int) = m.st from hsn)
 have HSS := Lib.hid (fun k => show runS m c (k + 1) = trn (runS m c k) (c.getD k 0).toNat from rfl)
 have HL0 := Lib.hid (show nats (runL m c 0) = [((runS m c 0 : Nat) : Int)] from rfl)
 have HLS := Lib.hid (fun k => show nats (runL m c (k + 1)) = nats (runL m c k) ++ [((runS m c (k + 1) : Nat) : Int)] from by rw [runL_succ]; simp [nats])
 have HLL := Lib.hid hlen
 rw [hlen] at HLT
 obtain ⟨X1, hX1⟩ : ∃ x, x = runX m l c := ⟨_, rfl⟩
 rw [← hX1] at hX hV ⊢
 generalize runV m l c = V at *
 generalize runH m l n = RH at *
 generalize safE m l m.st.toNat = SF at *
 generalize runE m l c = RE at *
 generalize runS m c = RS at *
 generalize runL m c = RL at *
 have HX := Lib.hid hX
 have HV := Lib.hid hV
 obtain ⟨XI, XE⟩ := X1
 obtain ⟨st, hst2⟩ : ∃ x, x = m.st := ⟨_, rfl⟩
 rw [← hst2] at HSF HCO HCG HS0 hst ⊢
 have HCG2 := HCG
 generalize hcg : chgE m l = CG at *
 obtain ⟨vo, lo, hi, ci, br, re⟩ := l
 simp only at HSF HCG ⊢
 clear hb hg hc hm hl hlen hcl hsn hs0 hX hV hX1 hst2 HCG2 hcg
 go_enter Tryz.func63, Tryz.ntmps63
 go_wp2_with fail
 obtain ⟨w2, hW2⟩ : ∃ w2, w2 = w.alloc (Obj.cells #[.slice ab nb cb, .int .i64 st, .slice ag ng cg, .int .i64 vo, .int .i64 lo, .int .i64 hi, .int .i64 ci, .int .i64 br, .int .i64 re] 100) := ⟨_, rfl⟩
 have hb2 : Below w.heap.size w w2 := by rw [hW2]; (first|exact bwg|go_size)
 have k2 : BlkR w2 w.heap.size (.cells #[.slice ab nb cb, .int .i64 st, .slice ag ng cg, .int .i64 vo, .int .i64 lo, .int .i64 hi, .int .i64 ci, .int .i64 br, .int .i64 re] 100) := by show w2.heap[w.heap.size]? = _; rw [hW2]; exact heap_alloc_new _ _
 obtain ⟨X2, hX2⟩ : ∃ X, X = w.heap.size := ⟨_, rfl⟩
 rw [← hW2]
 rw [← hX2] at k2
 simp only [← hX2]
 clear hW2
 have HB2 := Lib.hid hb2
 have K2 := Lib.hid k2
 have HXS := Lib.hid hX2
 clear hb2 k2 hX2
 obtain ⟨c2, c2_1, c2_2, c2_3, c2_4, c2_5, c2_6, c2_7, c2_8, l2⟩ := blkc9 K2.out
 refine later_of_eq 7 (by kernel_rfl) (by kernel_rfl) ?_; simp only [List.take_succ_cons, List.take_zero, List.drop_succ_cons, List.drop_zero]; repeat go_big_quiet_step(first | with_reducible exact calls_later_same (HUN.out _ _) | with_reducible exact calls_later (HSF.out _ (HB2.out.trans (Below.mono (Later.below _) HB2.out.size))) | trace_state)
 refine wpQuiet_nil ?_; intro w3 hb3
 have K3 := Lib.hid (K2.out.below hb3)
 have HB3 := bwt HB2 hb3
 clear hb3 HSF HUN HB2 K2 c2 c2_1 c2_2 c2_3 c2_4 c2_5 c2_6 c2_7 c2_8 l2
 go_wp2_with fail
 refine (t_first2 _ _ _ _ _ _ (by rfl) (by simp)).mono ?_
 rintro e4 w4 ⟨rfl, hw4⟩
 rw [← HRH.out]
 have hb4 : Below w3.heap.size w3 w4 := by rw [← hw4]; (first|exact bwg|go_size)
 have K4 := Lib.hid (K3.out.below hb4)
 have HB4 := bwt HB3 hb4
 clear hb4 hw4 HRH K3 HB3
 obtain ⟨c4, c4_1, c4_2, c4_3, c4_4, c4_5, c4_6, c4_7, c4_8, l4⟩ := blkc9 K4.out
 by_cases h0 : RH = 0
 rotate_left
 ·have e1 := bne_iff_ne.2 h0
  have hx1 := HX.out
  rw [if_pos h0] at hx1
  injection hx1 with hx1 hx2
  have hv1 := HV.out
  rw [if_pos (by rw [hx2]; exact h0)] at hv1
  go_wp2
  go_ret3
  obtain rfl : XI = 0 := hx1
  obtain rfl : XE = RH := hx2
  exact ⟨none, 0, 0, rfl, HB4.out, by rw [hv1]; exact IntsR.nil _ _⟩
 ·subst h0
  have hx1 := HX.out
  rw [if_neg (by simp)] at hx1
  have HXF := Lib.hid hx1.symm
  have hn40 := HN40.out rfl
  clear hx1 HX HN40
  go_wp2_with fail
  have hown0 : (w4.alloc (Obj.cells #[.int .i64 st] 117)).ownsRow w4.heap.size 117 1 (.slice (some ⟨w4.heap.size, 0, none⟩) 1 1) 1 (icells (nats (RL 0))) := by
   rw [HL0.out, HS0.out]
   exact owns_lit (w0 := w4) (base := w4.heap.size) (n := 1) (sz := 1) (cs := #[.int .i64 st]) (by simp) (by omega) (by omega) rfl
  obtain ⟨w5, hW5⟩ : ∃ w5, w5 = w4.alloc (Obj.cells #[.int .i64 st] 117) := ⟨_, rfl⟩
  have hb5 : Below w4.heap.size w4 w5 := by rw [hW5]; (first|exact bwg|go_size)
  have hz5 : w5.heap.size = w4.heap.size + 1 := by rw [hW5]; exact World.size_alloc ..
  rw [← hW5] at hown0 ⊢
  obtain ⟨a5, ha5⟩ : ∃ a, a = w4.heap.size := ⟨_, rfl⟩
  simp only [← ha5] at hown0 ⊢
  rw [← ha5] at hz5
  have HA5 := Lib.hid ha5
  have K5 := Lib.hid (K4.out.below hb5)
  have HB5 := bwt HB4 hb5
  have HO5 := Lib.hid hown0
  have HZ5 := Lib.hid (show a5 ≤ w5.heap.size by omega)
  have HX5 := Lib.hid (show X2 < a5 by rw [ha5]; exact l4)
  clear hW5 hb5 hz5 hown0 ha5 K4 HB4 c4 c4_1 c4_2 c4_3 c4_4 c4_5 c4_6 c4_7 c4_8 l4
  go_loopw [7, 9, 34] (fun s v x wr => ∃ (k : Nat) (av : Option Addr) (cv : Nat), s = .int .i64 (RS k : Int) ∧ v = .slice av (k + 1) cv ∧ x = .int .i64 (k : Int) ∧ k ≤ n ∧ Hid (∀ j, j < k → conE nb (c.getD j 0) = 0) ∧ Hid (firstAt RE (n - k) k = (XI, XE)) ∧ Hid (wr.ownsRow a5 117 1 (.slice av (k + 1) cv) (k + 1) (icells (nats (RL k)))) ∧ Hid (Below a5 w5 wr)) (fun _ _ x _ => n - (intOf x).toNat)
  case atStart => exact ⟨0, _, _, by rw [HS0.out], rfl, rfl, by omega, Lib.hid (fun j h => absurd h (by omega)), Lib.hid HXF.out, HO5, Lib.hid (Below.refl _ _)⟩
  case round =>
   obtain ⟨k, av, cv, rfl, rfl, rfl, hk, HKC, HKX, HKO, HBr⟩ := hrel
   have HBw := Lib.hid (show Below w.heap.size w wr from HB5.out.trans (HBr.out.mono (by have := HX5.out; have := HXS.out; omega)))
   have K2r := Lib.hid (show BlkR wr X2 _ from (HBr.out.block _ HX5.out).trans K5.out)
   have i0 : (0 : Int) ≤ (k : Int) := by omega
   by_cases hlt : k < n
   ·have i1 : (k : Int) < (n : Int) := by omega
    have hI := HIN.out _ HBw.out
    obtain ⟨bq, oq, rfl, hbq, hca⟩ := hI.addr (by omega)
    have hcl := hca k hlt
    clear hca
    have HI := Lib.hid hI
    generalize hx : c.getD k 0 = x at hcl
    have HGX := Lib.hid hx
    clear hI hx
    obtain ⟨c2, c2_1, c2_2, c2_3, c2_4, c2_5, c2_6, c2_7, c2_8, l2⟩ := blkc9 K2r.out
    go_wp2_with fail
    refine (HCO.out _ _).mono ?_
    rintro e6 w6 ⟨rfl, hb6⟩
    have HB6 := Lib.hid (HBr.out.trans (hb6.mono (by have := HBr.out.size; have := HZ5.out; omega)))
    have HBw6 := bwt HBw hb6
    have K6 := Lib.hid (K2r.out.below hb6)
    have ho : wr.ownsRow a5 117 1 (.slice av (k + 1) cv) (k + 1) (icells (nats (RL k))) := HKO.out
    have HO6 := Lib.hid (owns_below ho hb6 (fun q hq => (World.ownsRow.lt ho q hq).2))
    clear ho
    have HS := Lib.hid (HKX.out.symm.trans (firstAt_step hlt))
    have HR := Lib.hid (HRE.out k)
    rw [HGX.out] at HR
    clear hb6 c2 c2_1 c2_2 c2_3 c2_4 c2_5 c2_6 c2_7 c2_8 l2 hcl HBr HBw K2r HKO
    by_cases h1 : conE nb x = 0
    ·have HS64 := Lib.hid (show RS k < 2 ^ nb from HLT.out k (fun j hj => HKC.out j hj))
     obtain ⟨xn, rfl, hxn⟩ : ∃ xn : Nat, x = (xn : Int) ∧ xn < nb := by have := conE_zero.1 h1; exact ⟨x.toNat, by omega, by omega⟩
     rw [h1, Int.toNat_natCast, if_neg (by exact fun h => h rfl)] at HR
     have HN := Lib.hid h1
     have HCR := Lib.hid (fun (W : World) (hbw : Below w.heap.size w W) => HCG.out (RS k) xn HS64.out hxn W hbw)
     rw [h1]
     obtain ⟨c6, c6_1, c6_2, c6_3, c6_4, c6_5, c6_6, c6_7, c6_8, l6⟩ := blkc9 K6.out
     go_wp2_with fail
     refine (HCR.out _ HBw6.out).mono ?_
     rintro e7 w7 ⟨rfl, hb7⟩
     have HB7 := Lib.hid (HB6.out.trans (hb7.mono (by have := HB6.out.size; have := HZ5.out; omega)))
     have HBw7 := bwt HBw6 hb7
     have ho : w6.ownsRow a5 117 1 (.slice av (k + 1) cv) (k + 1) (icells (nats (RL k))) := HO6.out
     have HO7 := Lib.hid (owns_below ho hb7 (fun q hq => (World.ownsRow.lt ho q hq).2))
     clear ho hb7 c6 c6_1 c6_2 c6_3 c6_4 c6_5 c6_6 c6_7 c6_8 l6 HCR HCG HCO
     have HSR := Lib.hid (HSS.out k)
     rw [HGX.out, Int.toNat_natCast] at HSR
     have HT := Lib.hid (fun W => HTU.out (RS k) xn (Nat.lt_of_lt_of_le HS64.out (Nat.le_trans (Nat.pow_le_pow_right (by omega) hn6) (by decide))) (by omega) W)
     rw [← HSR.out] at HT
     have HLk := Lib.hid (HLS.out k)
     generalize CG (RS k) xn = E7 at *
     by_cases h2 : E7 = 0
     ·subst h2
      have hs := HS.out
      rw [HR.out, if_neg (by exact fun h => h rfl)] at hs
      have HS2 := Lib.hid hs
      clear hs HS HR
      go_wp2_with fail
      refine (HT.out _).mono ?_
      rintro e8 w8 ⟨rfl, rfl⟩
      clear HT
      have ho7 : w7.ownsRow a5 117 1 (.slice av (k + 1) cv) (k + 1) (icells (nats (RL k))) := HO7.out
      have hz7 := HB7.out.size
      have hza := HZ5.out
      go_wp2_with (at_builtin; refine wpList_append_sl _ rfl _ _ 118 rfl a5 117 _ 1 8 Tryz.underlying118 infoSet2 rfl (by omega) _ (k + 1) _ rfl (ho7.alloc _) _ 1 1 [.int .i64 (RS (k + 1) : Int)] rfl (SlR.lit _ _ _ _ _ 1 1 (by rfl) (by simp) rfl (by omega)) (by simp [Value.oneCell']) (by omega) (by omega) (by simp; omega) ?_)
      intro v2 w2' hown2 hgr2 hb2
      obtain ⟨av2, cv2, rfl, _, _⟩ := owns_slice hown2
      have HO9 := Lib.hid (show w2'.ownsRow a5 117 1 (.slice av2 (k + 1 + 1) cv2) (k + 1 + 1) (icells (nats (RL (k + 1)))) from by rw [HLk.out, icells_append]; exact hown2)
      have HB9 := Lib.hid (show Below a5 w5 w2' from (HB7.out.alloc (by omega) _).trans hb2)
      have HC9 := Lib.hid (fun j (hj : j < k + 1) => show conE nb (c.getD j 0) = 0 from by
       by_cases hjk : j = k
       ·subst hjk; rw [HGX.out]; exact HN.out
       ·exact HKC.out j (by omega))
      clear hown2 hgr2 hb2 ho7
      go_wp2
      refine ⟨⟨k + 1, av2, cv2, rfl, rfl, by go_num, by omega, HC9, Lib.hid HS2.out.symm, HO9, HB9⟩, ?_⟩
      simp only [intOf]; omega
     ·have e1 := bne_iff_ne.2 h2
      have hs := HS.out
      rw [HR.out, if_pos h2] at hs
      injection hs with hs1 hs2
      have hv1 := HV.out
      rw [if_pos (by rw [hs2]; exact h2)] at hv1
      have HS1 := Lib.hid hs1
      have HS2 := Lib.hid hs2
      clear hs1 hs2 HS HR
      go_wp2
      go_ret3
      obtain rfl : XI = (k : Int) := HS1.out
      obtain rfl : XE = E7 := HS2.out
      exact ⟨none, 0, 0, rfl, HBw7.out, by rw [hv1]; exact IntsR.nil _ _⟩
    ·have e1 := bne_iff_ne.2 h1
     have hs := HS.out
     rw [HR.out, if_pos h1, if_pos h1] at hs
     injection hs with hs1 hs2
     have hv1 := HV.out
     rw [if_pos (by rw [hs2]; exact h1)] at hv1
     have HS1 := Lib.hid hs1
     have HS2 := Lib.hid hs2
     clear hs1 hs2 HS HR
     go_wp2
     go_ret3
     obtain rfl : XI = (k : Int) := HS1.out
     obtain rfl : XE = conE nb x := HS2.out
     exact ⟨none, 0, 0, rfl, HBw6.out, by rw [hv1]; exact IntsR.nil _ _⟩
   ·obtain rfl : k = n := by omega
    have i1 : ¬ ((k : Int) < (k : Int)) := by omega
    have hx2 := HKX.out
    rw [firstAt_end (Nat.le_refl _)] at hx2
    injection hx2 with hx1 hx2
    obtain rfl : XI = 0 := hx1.symm
    obtain rfl : XE = 0 := hx2.symm
    have hv1 := HV.out
    rw [if_neg (by exact fun h => h rfl)] at hv1
    clear hx1 hx2
    go_wp2
    go_ret3
    exact ⟨av, k + 1, ⟨cv, rfl⟩, HBw.out, by first | exact SlR.of_owns HKO.out | (rw [hv1]; exact SlR.of_owns HKO.out)⟩
end Go.Proofs.YtdjinmieogpgcaaGreat
/- The program's states of a run, exported. -/
namespace Go.Proofs.YtdjinmieogpgcaaGreat
open Go.RowKit Go.Shelf
set_option linter.unusedVariables false
set_option linter.unusedSimpArgs false
attribute [local go_sem] Oper.semAt_some
theorem runV_len (m : Mac) (l : Lim) (c : List Int) : (runV m l c).length ≤ 41 := by
 unfold runV
 by_cases h : (runX m l c).2 ≠ 0
 ·rw [if_pos h]; simp
 ·rw [if_neg h]
  unfold runL
  rw [List.length_map, List.length_range]
  by_cases hn : (c.length : Int) ≤ 40
  ·omega
  ·refine absurd ?_ h
   have : runH m l c.length ≠ 0 := by unfold runH; rw [decide_eq_false hn]; simp [firstErr, unl]
   unfold runX; rw [if_pos this]; exact this
theorem runX_zero {m : Mac} {l : Lim} {c : List Int} (h : (runX m l c).2 = 0) : (runX m l c).1 = 0 := by
 unfold runX at h ⊢
 by_cases h0 : runH m l c.length ≠ 0
 ·rw [if_pos h0] at h; exact absurd h h0
 ·rw [if_neg h0] at h ⊢
  rw [(firstAt_none _ _ h).1]
theorem take_snocG {l : List Int} {k : Nat} (h : k < l.length) : l.take (k + 1) = l.take k ++ [l.getD k 0] := by
 rw [List.take_add_one, List.getElem?_eq_getElem h]; simp [List.getD, h]
def rofX (m : Mac) (l : Lim) (c : List Int) : Int × Int := if opnE m l ≠ 0 then (0, opnE m l) else runX m l c
def rofV (m : Mac) (l : Lim) (c : List Int) : List Nat := if opnE m l ≠ 0 then [] else if (runX m l c).2 ≠ 0 then [] else runV m l c
set_option maxHeartbeats 1000000 in
set_option maxRecDepth 100000 in
theorem runOf_any (m : Mac) (l : Lim) (c : List Int) (ac ab ag : Option Addr) (n cc nb cb ng cg : Nat) (w : World) (hb : BrR w ab nb m.br) (hg : GrR w ag ng m.gs) (hc : IntsR w ac n c) :
    Calls Tryz.prog 25 #[.agg #[.slice ab nb cb, .int .i64 m.st, .slice ag ng cg], .agg #[.int .i64 l.volt, .int .i64 l.lo, .int .i64 l.hi, .int .i64 l.circ, .int .i64 l.brk, .int .i64 l.ret], .slice ac n cc] w
     fun e' w' => ∃ a' n' c', e' = .returned (.tuple #[.slice a' n' c', .int .i64 (rofX m l c).1, .int .i64 (rofX m l c).2]) ∧ Below w.heap.size w w' ∧ IntsR w' a' n' (nats (rofV m l c)) := by
 have HO := Lib.hid (fun (W : World) (hbw : Below w.heap.size w W) => open6_any m l ab ag nb cb ng cg W (hb.below hbw) (hg.below hbw))
 have HRU := Lib.hid (fun (h : opnE m l = 0) (W : World) (hbw : Below w.heap.size w W) => run_any m l c ac ab ag n cc nb cb ng cg W (opnE_zero h).1 (opnE_zero h).2 (hb.below hbw) (hg.below hbw) (hc.below hbw))
 have hX : rofX m l c = if opnE m l ≠ 0 then (0, opnE m l) else runX m l c := rfl
 have hV : rofV m l c = if opnE m l ≠ 0 then [] else if (runX m l c).2 ≠ 0 then [] else runV m l c := rfl
 have HVL := Lib.hid (runV_len m l c)
 have HR0 := Lib.hid (fun h => runX_zero (m := m) (l := l) (c := c) h)
 rw [show firstErr [(macE m).2, limE l] = opnE m l from rfl] at HO
 generalize rofX m l c = X at *
 generalize rofV m l c = V at *
 generalize opnE m l = E at *
 generalize runX m l c = RX at *
 generalize runV m l c = RV at *
 obtain ⟨XI, XE⟩ := X
 obtain ⟨RI, RE⟩ := RX
 have HX := Lib.hid hX
 have HV := Lib.hid hV
 obtain ⟨vo, lo, hi, ci, br, re⟩ := l
 obtain ⟨st, hst⟩ : ∃ x, x = m.st := ⟨_, rfl⟩
 rw [← hst] at HO HRU ⊢
 simp only at HO HRU ⊢
 clear hb hg hc hst hX hV
 go_enter Tryz.func25, Tryz.ntmps25
 go_wp2_with fail
 refine (HO.out _ (by (first|exact bwg|go_size))).mono ?_
 rintro e5 w5 ⟨rfl, hb5⟩
 have HB5 := Lib.hid (show Below w.heap.size w w5 by (first|exact bwg|go_size))
 clear hb5 HO
 by_cases h0 : E = 0
 rotate_left
 ·have e1 := bne_iff_ne.2 h0
  have hx1 := HX.out
  rw [if_pos h0] at hx1
  injection hx1 with hx1 hx2
  have hv1 := HV.out
  rw [if_pos h0] at hv1
  clear HX HV HRU
  go_wp2
  go_ret3
  obtain rfl : XI = 0 := hx1
  obtain rfl : XE = E := hx2
  exact ⟨none, 0, 0, rfl, HB5.out.alloc HB5.out.size _, by rw [hv1]; exact IntsR.nil _ _⟩
 ·subst h0
  have hx1 := HX.out
  rw [if_neg (by simp)] at hx1
  have hv1 := HV.out
  rw [if_neg (by simp)] at hv1
  have HX := Lib.hid hx1
  have HV := Lib.hid hv1
  have HRW := Lib.hid (HRU.out rfl)
  clear hx1 hv1 HRU
  go_wp2_with fail
  refine (HRW.out _ (HB5.out.alloc HB5.out.size _)).mono ?_
  rintro e6 w6 ⟨a6, n6, c6, rfl, hb6, hi6⟩
  have HI6 := Lib.hid hi6
  have HN6 := Lib.hid hi6.len
  have HB6 := Lib.hid ((HB5.out.alloc HB5.out.size _).trans (hb6.mono (HB5.out.alloc HB5.out.size _).size))
  clear hb6 HRW hi6
  by_cases h1 : RE = 0
  rotate_left
  ·have e1 := bne_iff_ne.2 h1
   have hx1 := HX.out
   injection hx1 with hx1 hx2
   have hv1 := HV.out
   rw [if_pos (by exact h1)] at hv1
   clear HX HV
   go_wp2
   go_ret3
   obtain rfl : XI = RI := hx1
   obtain rfl : XE = RE := hx2
   exact ⟨none, 0, 0, rfl, HB6.out, by rw [hv1]; exact IntsR.nil _ _⟩
  ·subst h1
   have hx1 := HX.out
   injection hx1 with hx1 hx2
   have hv1 := HV.out
   rw [if_neg (by exact fun h => h rfl)] at hv1
   subst hv1
   have HX1 := Lib.hid hx1
   have HX2 := Lib.hid hx2
   clear HX HV hx1 hx2
   go_wp2_with fail
   have hn6 : n6 ≤ 41 := by have h1 := HN6.out; have h2 := HVL.out; simp [nats] at h1; omega
   obtain ⟨a7, ha7⟩ : ∃ a, a = w6.heap.size := ⟨_, rfl⟩
   have HA7 := Lib.hid (show a7 ≤ w6.heap.size by omega)
   have HA8 := Lib.hid (show w6.heap.size ≤ a7 by omega)
   have HT6 := Lib.hid (fun k (hk : k < n6) => icells_get (l := nats V) (i := k) (by rw [HN6.out]; exact hk))
   clear ha7
   go_loopw [13, 38] (fun v x wr => ∃ (k : Nat) (av : Option Addr) (cv : Nat), v = .slice av k cv ∧ x = .int .i64 (k : Int) ∧ k ≤ n6 ∧ Hid (wr.ownsRow a7 3 1 (.slice av k cv) k (icells ((nats V).take k))) ∧ Hid (Below a7 w6 wr)) (fun _ x _ => n6 - (intOf x).toNat)
   case atStart => exact ⟨0, none, 0, rfl, rfl, by omega, Lib.hid ⟨rfl, .inl ⟨rfl, rfl⟩⟩, Lib.hid (Below.refl _ _)⟩
   case round =>
    obtain ⟨k, av, cv, rfl, rfl, hk, HKO, HBr⟩ := hrel
    have hbl := HBr.out.mono HA8.out
    have HBw := bwt HB6 hbl
    have HI := Lib.hid (HI6.out.below hbl)
    have i0 : (0 : Int) ≤ (k : Int) := by omega
    clear hbl
    by_cases hlt : k < n6
    ·have i1 : (k : Int) < (n6 : Int) := by omega
     have hI := HI.out
     have hlen := HN6.out
     obtain ⟨bq, oq, rfl, hbq, hca⟩ := hI.addr (by omega)
     have hcl := hca k hlt
     have htk : (nats V).take (k + 1) = (nats V).take k ++ [(nats V).getD k 0] := take_snocG (by rw [hlen]; exact hlt)
     generalize hx : (nats V).getD k 0 = x at hcl htk
     have HTK := Lib.hid htk
     have hown : wr.ownsRow a7 3 1 (.slice av k cv) k (icells ((nats V).take k)) := HKO.out
     have hz := HBr.out.size
     have hz7 := HA7.out
     clear hI hx hca hlen htk
     go_wp2_with (at_builtin; refine wpList_append_sl _ rfl _ _ 48 rfl a7 3 _ 1 8 Tryz.underlying48 infoInt rfl (by omega) _ k _ rfl (hown.alloc _) _ 1 1 [.int .i64 x] rfl (SlR.lit _ _ _ _ _ 1 1 (by rfl) (by simp) rfl (by omega)) (by simp [Value.oneCell']) (by omega) (by omega) (by simp; omega) ?_)
     intro v2 w2' hown2 hgr2 hb2
     obtain ⟨av2, cv2, rfl, _, _⟩ := owns_slice hown2
     have HO9 := Lib.hid (show w2'.ownsRow a7 3 1 (.slice av2 (k + 1) cv2) (k + 1) (icells ((nats V).take (k + 1))) from by rw [HTK.out, icells_append]; exact hown2)
     have HB9 := Lib.hid (show Below a7 w6 w2' from (HBr.out.alloc (by omega) _).trans hb2)
     clear hown2 hgr2 hb2 hown hcl
     go_wp2
     refine ⟨⟨k + 1, av2, cv2, rfl, by go_num, by omega, HO9, HB9⟩, ?_⟩
     simp only [intOf]; omega
    ·obtain rfl : k = n6 := by omega
     have i1 : ¬ ((k : Int) < (k : Int)) := by omega
     have hown : wr.ownsRow a7 3 1 (.slice av k cv) k (icells ((nats V).take k)) := HKO.out
     rw [List.take_of_length_le (by rw [HN6.out]; exact Nat.le_refl _)] at hown
     go_wp2
     go_ret3
     obtain rfl : XI = 0 := HX1.out.trans (HR0.out (by trivial))
     obtain rfl : XE = 0 := HX2.out
     exact ⟨av, k, ⟨cv, rfl⟩, HBw.out, SlR.of_owns hown⟩
end Go.Proofs.YtdjinmieogpgcaaGreat
