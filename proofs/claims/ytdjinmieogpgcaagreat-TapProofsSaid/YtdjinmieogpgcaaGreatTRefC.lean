import Derived.Test.YtdjinmieogpgcaaGreatMTRowA
/- The currents of all contacts in the reference: the walk. -/
namespace Go.Proofs.YtdjinmieogpgcaaGreat
open Go.RowKit Go.Shelf
set_option linter.unusedVariables false
set_option linter.unusedSimpArgs false
attribute [local go_sem] Oper.semAt_some
def preQ (m : Mac) (l : Lim) (s : Nat) (load : Int) (k : Nat) : Rat := if k ∈ cloU s 6 ∧ isRes m k = false then zQ m l s load k else ((0 : Int) : Rat)
set_option maxHeartbeats 4000000 in
set_option maxRecDepth 100000 in
theorem rcurrents_any (m : Mac) (l : Lim) (s : Nat) (load : Int) (ab ag : Option Addr) (nb cb ng cg : Nat) (w : World) (hb : BrR w ab nb m.br) (he : ElV m l s load) :
    Calls Tryz.prog 115 #[.agg #[.slice ab nb cb, .int .i64 m.st, .slice ag ng cg], .agg #[.int .i64 l.volt, .int .i64 l.lo, .int .i64 l.hi, .int .i64 l.circ, .int .i64 l.brk, .int .i64 l.ret], .int .i64 (s : Int), .int .i64 load] w
     fun e' w' => ∃ (A : Nat → Prop) (g : Nat) (cs : Array Value), e' = .returned (.slice (some ⟨g, 0, none⟩) nb nb) ∧ Below w.heap.size w w' ∧ w.heap.size ≤ g ∧ RowA A w' g nb nb (zQ m l s load) cs := by
 have hn6 : nb ≤ 6 := by rw [← hb.len]; exact he.hm.n1
 have hs64 := he.s64
 obtain ⟨d0, d1⟩ := he.hd
 have HOU := Lib.hid (fun (W : World) (hbw : Below w.heap.size w W) => routput_any m l s load ab ag nb cb ng cg W (hb.below hbw) he)
 have HTV := Lib.hid (fun (k : Nat) (hk : k < nb) (W : World) (hbw : Below w.heap.size w W) => tapVoltage_any m l k ab ag nb cb ng cg W he.hm (hb.below hbw) he.hl hk)
 have HIC := Lib.hid (fun (i : Nat) (hi : i < nb) w' => isClosed_any s i w' hs64 (by omega))
 have HBR := Lib.hid (fun (W : World) (hbw : Below w.heap.size w W) => hb.below hbw)
 have HBV := Lib.hid (fun (i : Nat) (hi : i < nb) => he.hm.br i (by rw [hb.len]; exact hi))
 have HVB := Lib.hid (fun (i : Nat) (hi : i < nb) => vol_bd he.hm he.hl (k := i) (by rw [hb.len]; exact hi))
 have H6 := Lib.hid (show cloU s 6 = cloU s nb from cloU_six nb (by omega) s (by rw [← hb.len]; exact he.hs))
 have HMK := Lib.hid (fun w' : World => makeRatiosA w' nb (by omega))
 have HLT := Lib.hid (show ∀ k ∈ cloU s 6, k < nb from fun k hk => by rw [← hb.len]; exact he.lt k hk)
 have HSZ := Lib.hid (show Sz 2 (outQ m l s load) ∧ (∀ k, k < nb → Sz 2 (zQ m l s load k)) ∧ ∀ L, L.length ≤ 6 → (∀ k ∈ L, k < nb) → Sz 2 (rstQ m l load (outT m l s load).1 (outT m l s load).2 L) from by
  have hvo := he.vo
  have hco := he.com
  refine ⟨?_, fun k hk => ?_, fun L h6 hL => ?_⟩
  ·obtain ⟨a1, a2, a3⟩ := hvo
   exact sz_parts (by omega) (by omega)
  ·have hz := zcur_bd he (k := k) (by rw [hb.len]; exact hk)
   exact sz_frac (by simp only [pw]; omega) hco.1 (by simp only [pw]; omega)
  ·have hr := rst_bd (load := load) he.hm he.hl he.hd hvo L (fun k hk => by rw [hb.len]; exact hL k hk)
   obtain ⟨a1, a2, a3⟩ := hvo
   have h2 : (1000 + 21000 * L.length) * (2520 * (outT m l s load).2.natAbs) ≤ 127000 * 38102400 := Nat.mul_le_mul (by omega) (by omega)
   exact sz_frac (by simp only [pw]; omega) (by omega) (by simp only [pw]; omega))
 have HZR := Lib.hid (fun (k : Nat) (hk : k < nb) (hc : k ∈ cloU s 6) (hn : isRes m k = false) => show (((volA m l k : Int) : Rat) - outQ m l s load) / (((bAt m.br k).res : Int) : Rat) = zQ m l s load k ∧ ((((bAt m.br k).res : Int) : Rat) ≠ 0) from by
  have h := he.hm.br k (by rw [hb.len]; exact hk)
  have hne : (bAt m.br k).res ≠ 0 := by unfold isRes at hn; simpa using hn
  exact ⟨zQ_res he.vo.1 hc hn (by omega) (by omega), castZ hne⟩)
 have HRS := Lib.hid (fun (k : Nat) (L : List Nat) (hc : k ∈ cloU s 6) (hn : isRes m k = false) => rstQ_snoc (load := load) (L := L) he.vo.1 hc hn)
 have HR0 := Lib.hid (show rstQ m l load (outT m l s load).1 (outT m l s load).2 [] = ((load : Int) : Rat) from rstQ_nil he.vo.1)
 obtain ⟨RQ, hRQ⟩ : ∃ RQ : List Nat → Rat, ∀ L, RQ L = rstQ m l load (outT m l s load).1 (outT m l s load).2 L := ⟨fun L => rstQ m l load (outT m l s load).1 (outT m l s load).2 L, fun _ => rfl⟩
 have HRR := Lib.hid (fun (k : Nat) (L : List Nat) (hn : isRes m k = true) => show RQ (L ++ [k]) = RQ L from by rw [hRQ, hRQ]; exact rstQ_res hn)
 have HZD := Lib.hid (fun (k : Nat) (hn : isRes m k = true) (hd : (k : Int) = dirD m (cloU s 6)) => show zQ m l s load k = RQ (cloU s 6) from by rw [hRQ]; exact zQ_dir hn hd)
 have HZO := Lib.hid (fun (k : Nat) (hd : (k : Int) ≠ dirD m (cloU s 6)) => show preQ m l s load k = zQ m l s load k from by
  unfold preQ
  split
  ·rfl
  ·rename_i hn; exact (zQ_off hn hd).symm)
 simp only [← hRQ] at HSZ HRS HR0
 have hpq : ∀ k, preQ m l s load k = if k ∈ cloU s 6 ∧ isRes m k = false then zQ m l s load k else ((0 : Int) : Rat) := fun k => rfl
 have HPQ := Lib.hid hpq
 clear hpq
 generalize outQ m l s load = OQ at *
 generalize zQ m l s load = ZQ at *
 generalize preQ m l s load = PQ at *
 obtain ⟨st, hst⟩ : ∃ x, x = m.st := ⟨_, rfl⟩
 rw [← hst] at HTV HOU ⊢
 clear hb he hst hRQ
 obtain ⟨vo, lo, hi', ci, br, re⟩ := l
 simp only at HTV HOU ⊢
 go_enter Tryz.func115, Tryz.ntmps115
 go_wp2_with fail
 obtain ⟨w1, hW⟩ : ∃ w1, w1 = ((w.alloc (Obj.cells #[.slice ab nb cb, .int .i64 st, .slice ag ng cg] 45)).alloc (Obj.cells #[.int .i64 vo, .int .i64 lo, .int .i64 hi', .int .i64 ci, .int .i64 br, .int .i64 re] 47)) := ⟨_, rfl⟩
 obtain ⟨hb1, k4, k5⟩ := alc2 w (Obj.cells #[.slice ab nb cb, .int .i64 st, .slice ag ng cg] 45) (Obj.cells #[.int .i64 vo, .int .i64 lo, .int .i64 hi', .int .i64 ci, .int .i64 br, .int .i64 re] 47)
 rw [← hW] at hb1 k4 k5
 obtain ⟨X4, hX4⟩ : ∃ X, X = w.heap.size := ⟨_, rfl⟩
 obtain ⟨X5, hX5⟩ : ∃ X, X = w.heap.size + 1 := ⟨_, rfl⟩
 rw [← hX5] at k5
 have k4 : BlkR w1 X4 (.cells #[.slice ab nb cb, .int .i64 st, .slice ag ng cg] 45) := by rw [hX4]; exact k4
 have K4 := Lib.hid k4
 have K5 := Lib.hid k5
 have HB1 := Lib.hid hb1
 clear k4 k5 hb1
 rw [← hW]
 simp only [← hX5]
 simp only [← hX4]
 clear hW hX4 hX5
 obtain ⟨q0, q1, q2, _⟩ := blkc3 K4.out
 obtain ⟨u0, u1, u2, u3, u4, u5, _⟩ := blkc6 K5.out
 have l4 := K4.out.lt
 have l5 := K5.out.lt
 go_wp2_with fail
 refine (HOU.out w1 HB1.out).mono ?_
 rintro ex w2 ⟨sA, aA, nA, cA, tA, bA, mA, dA, rfl, hb2, _, hA⟩
 have J4 := K4
 have J5 := K5
 have K4 := Lib.hid (K4.out.below hb2)
 have K5 := Lib.hid (K5.out.below hb2)
 clear q0 q1 q2 u0 u1 u2 u3 u4 u5 l4 l5
 obtain ⟨q0, q1, q2, _⟩ := blkc3 K4.out
 obtain ⟨u0, u1, u2, u3, u4, u5, _⟩ := blkc6 K5.out
 have l4 := K4.out.lt
 have l5 := K5.out.lt
 have hmk := HMK.out
 go_wp2_with fail
 obtain ⟨MC, hMC⟩ : ∃ MC, MC = madeCells #[Value.int .i64 0, .slice none 0 0, .int .i64 0, .slice none 0 0] (nb * 4) := ⟨_, rfl⟩
 have hMS : MC.size = nb * 4 := by rw [hMC]; simp [madeCells]
 rw [← hMC]
 obtain ⟨w3, hW3⟩ : ∃ w3, w3 = (w2.alloc (Obj.cells #[.int .i64 sA, .slice aA nA cA, .int .i64 tA, .slice bA mA dA] 174)).alloc (Obj.cells MC 174) := ⟨_, rfl⟩
 rw [← hW3]
 have hb3 : Below w2.heap.size w2 w3 := by rw [hW3]; (first|exact bwg|go_size)
 have k9 : BlkR w3 w2.heap.size (.cells #[.int .i64 sA, .slice aA nA cA, .int .i64 tA, .slice bA mA dA] 174) := by
  have hba : Below (w2.alloc (Obj.cells #[.int .i64 sA, .slice aA nA cA, .int .i64 tA, .slice bA mA dA] 174)).heap.size (w2.alloc (Obj.cells #[.int .i64 sA, .slice aA nA cA, .int .i64 tA, .slice bA mA dA] 174)) w3 := by rw [hW3]; (first|exact bwg|go_size)
  exact BlkR.below (w := w2.alloc (Obj.cells #[.int .i64 sA, .slice aA nA cA, .int .i64 tA, .slice bA mA dA] 174)) (heap_alloc_new _ _) hba
 have kG : BlkR w3 (w2.heap.size + 1) (.cells MC 174) := by
  show w3.heap[w2.heap.size + 1]? = _
  rw [hW3]
  have := heap_alloc_new (w2.alloc (Obj.cells #[.int .i64 sA, .slice aA nA cA, .int .i64 tA, .slice bA mA dA] 174)) (Obj.cells MC 174)
  simpa using this
 obtain ⟨X9, hX9⟩ : ∃ X, X = w2.heap.size := ⟨_, rfl⟩
 obtain ⟨G, hG⟩ : ∃ X, X = w2.heap.size + 1 := ⟨_, rfl⟩
 rw [← hX9] at k9
 rw [← hG] at kG
 refine (rb_int load w3 (by omega) (by omega)).mono ?_
 rintro ex w4 ⟨sB, aB, nB, cB, tB, bB, mB, dB, rfl, hb4, _, hB⟩
 clear hmk hW3
 go_wp2_with fail
 obtain ⟨w5, hW5⟩ : ∃ w5, w5 = w4.alloc (Obj.cells #[.int .i64 sB, .slice aB nB cB, .int .i64 tB, .slice bB mB dB] 174) := ⟨_, rfl⟩
 rw [← hW5]
 have hb5 : Below w4.heap.size w4 w5 := by rw [hW5]; (first|exact bwg|go_size)
 have k11 : BlkR w5 w4.heap.size (.cells #[.int .i64 sB, .slice aB nB cB, .int .i64 tB, .slice bB mB dB] 174) := by
  show w5.heap[w4.heap.size]? = _
  rw [hW5]
  exact heap_alloc_new _ _
 obtain ⟨X11, hX11⟩ : ∃ X, X = w4.heap.size := ⟨_, rfl⟩
 rw [← hX11] at k11
 simp only [← hX11]
 simp only [← hG]
 simp only [← hX9]
 have z2 := hb2.size
 have z3 := hb3.size
 have z4 := hb4.size
 have z5 := hb5.size
 have zw := HB1.out.size
 have lG := kG.lt
 have hord : w1.heap.size ≤ X9 ∧ X9 < G ∧ G < X11 := by omega
 have l11 := k11.lt
 have hA2 := (RatioR.here hA).below ((hb3.trans ((hb4.trans (hb5.mono z4)).mono z3)))
 have HA0 : RA (own3 X9 G X11) w5 (.agg #[.int .i64 sA, .slice aA nA cA, .int .i64 tA, .slice bA mA dA]) OQ :=
  RatioR.mono hA2 (fun b hb => ⟨fun h => by unfold own3 at h; omega, by omega⟩)
 have hB2 := (RatioR.here hB).below hb5
 have HB0 : RA (own3 X9 G X11) w5 (Qv.val ⟨sB, aB, nB, cB, tB, bB, mB, dB⟩) (RQ []) := by
  rw [HR0.out]
  exact RatioR.mono hB2 (fun b hb => ⟨fun h => by unfold own3 at h; omega, by omega⟩)
 have HRW0 : RowA (own3 X9 G X11) w5 G nb 0 PQ MC := ⟨(kG.below (hb4.trans (hb5.mono z4))), hMS, .inr (.inl rfl), fun j hj => absurd hj (by omega)⟩
 have hb15 : Below w1.heap.size w1 w5 := hb2.trans ((hb3.trans ((hb4.trans (hb5.mono z4)).mono z3)).mono z2)
 have K9 := Lib.hid (k9.below (hb4.trans (hb5.mono z4)))
 have K11 := Lib.hid k11
 have HV := Lib.hid HA0
 have HU := Lib.hid HB0
 have HRW := Lib.hid HRW0
 have HBx := Lib.hid hb15
 have HOR := Lib.hid hord
 clear q0 q1 q2 u0 u1 u2 u3 u4 u5 l4 l5
 clear hA hA2 hB hB2 HA0 HB0 HRW0 hb15 k9 k11 kG hb2 hb3 hb4 hb5 z2 z3 z4 z5 lG hMC hX9 hG hX11 hW5 HOU HMK HR0
 go_loopw [12, 13] (fun d x wr => ∃ (i : Nat) (u : Qv) (cs : Array Value), d = .int .i64 (dirD m (cloU s i)) ∧ x = .int .i64 (i : Int) ∧ i ≤ nb ∧ Hid (RowA (own3 X9 G X11) wr G nb i PQ cs) ∧ Hid (BlkR wr X9 (.cells #[.int .i64 sA, .slice aA nA cA, .int .i64 tA, .slice bA mA dA] 174)) ∧ Hid (BlkR wr X11 (.cells u.row 174)) ∧ Hid (RA (own3 X9 G X11) wr (.agg #[.int .i64 sA, .slice aA nA cA, .int .i64 tA, .slice bA mA dA]) OQ) ∧ Hid (RA (own3 X9 G X11) wr u.val (RQ (cloU s i))) ∧ Hid (Below w1.heap.size w1 wr)) (fun _ x _ => nb - (intOf x).toNat)
 case atStart => exact ⟨0, ⟨sB, aB, nB, cB, tB, bB, mB, dB⟩, MC, rfl, rfl, Nat.zero_le _, HRW, K9, K11, HV, HU, HBx⟩
 case round =>
  clear K9 K11 HV HU HRW HBx
  obtain ⟨i, ⟨s1, a1, n1, c1', t1, b1, m1, d1'⟩, cs, rfl, rfl, hi, HRW, K9, K11, HV, HU, HBx⟩ := hrel
  have i0 : (0 : Int) ≤ (i : Int) := by omega
  have K4 := Lib.hid (J4.out.below HBx.out)
  have K5 := Lib.hid (J5.out.below HBx.out)
  have K11 := Lib.hid (show BlkR wr X11 (.cells #[.int .i64 s1, .slice a1 n1 c1', .int .i64 t1, .slice b1 m1 d1'] 174) from K11.out)
  have HU := Lib.hid (show RA (own3 X9 G X11) wr (.agg #[.int .i64 s1, .slice a1 n1 c1', .int .i64 t1, .slice b1 m1 d1']) _ from HU.out)
  by_cases hlt : i < nb
  ·have i1 : (i : Int) < (nb : Int) := by omega
   have HTVI := Lib.hid (HTV.out i hlt)
   obtain ⟨bb, ob, rfl, hbb0, hcc⟩ := (HBR.out w (Below.refl _ _)).addr (by omega)
   obtain ⟨_, hc1⟩ := hcc i hlt
   obtain ⟨_, r0, r1⟩ := HBV.out i hlt
   obtain ⟨v0, v1⟩ := HVB.out i hlt
   have HICX := Lib.hid (HIC.out i hlt)
   obtain ⟨mb, hmb⟩ : ∃ b, b = s.testBit i := ⟨_, rfl⟩
   rw [← hmb] at HICX
   have HMB := Lib.hid hmb
   have HMM := Lib.hid (show mb = true → i ∈ cloU s 6 from fun h => by unfold cloU; rw [List.mem_filter, List.mem_range]; exact ⟨by omega, by rw [← hmb]; exact h⟩)
   have HMN := Lib.hid (show mb = false → i ∉ cloU s 6 from fun h hm => by have h2 := (clo_mem hm).2; rw [← hmb, h] at h2; cases h2)
   have HRES := Lib.hid (fun (h : mb = true) (hn : isRes m i = false) => HZR.out i hlt (HMM.out h) hn)
   have HRSX := Lib.hid (fun (h : mb = true) (hn : isRes m i = false) => HRS.out i (cloU s i) (HMM.out h) hn)
   have HIS := Lib.hid (show isRes m i = ((bAt m.br i).res == 0) from rfl)
   obtain ⟨rr, hrr⟩ : ∃ r, r = (bAt m.br i).res := ⟨_, rfl⟩
   rw [← hrr] at hc1 r0 r1 HRES HIS
   have HC1 := Lib.hid hc1
   have HBB := Lib.hid hbb0
   have HPQI := Lib.hid (HPQ.out i)
   clear hmb hrr hcc hc1 hbb0
   obtain ⟨q0, q1, q2, _⟩ := blkc3 K4.out
   obtain ⟨u0, u1, u2, u3, u4, u5, _⟩ := blkc6 K5.out
   have l4 := K4.out.lt
   have l5 := K5.out.lt
   go_wp2_with fail
   refine (rb_int 0 wr (by omega) (by omega)).mono ?_
   rintro ex wa ⟨sC, aC, nC, cC, tC, bC, mC, dC, rfl, hba, _, hC⟩
   have hna : G < wr.heap.size ∧ X9 < wr.heap.size ∧ X11 < wr.heap.size := ⟨HRW.out.lt, K9.out.lt, K11.out.lt⟩
   have hRC : RA (own3 X9 G X11) wa (.agg #[.int .i64 sC, .slice aC nC cC, .int .i64 tC, .slice bC mC dC]) ((0 : Int) : Rat) := RA.new hC.out (fun b hb => by unfold own3 at hb; omega)
   have HRW := Lib.hid (HRW.out.below hba)
   have K9 := Lib.hid (K9.out.below hba)
   have K11 := Lib.hid (K11.out.below hba)
   have HV := Lib.hid (HV.out.below hba)
   have HU := Lib.hid (HU.out.below hba)
   have HBx := bwt HBx hba
   have hzero := HRW.out.set hlt hRC (fun k => if k = i then ((0 : Int) : Rat) else PQ k) (i + 1) (if_pos rfl) (fun k hk hne => ⟨by omega, if_neg hne⟩)
   obtain ⟨u0', u1', u2', u3', g0, g1, g2, g3, f0, f1, f2, f3⟩ := HRW.out.cells hlt
   have lg := HRW.out.lt
   have K9 := Lib.hid (show BlkR (set4j wa G i (.int .i64 sC) (.slice aC nC cC) (.int .i64 tC) (.slice bC mC dC)) X9 _ from (set4j_other wa G i X9 _ _ _ _ (by omega)).trans K9.out)
   have K11 := Lib.hid (show BlkR (set4j wa G i (.int .i64 sC) (.slice aC nC cC) (.int .i64 tC) (.slice bC mC dC)) X11 _ from (set4j_other wa G i X11 _ _ _ _ (by omega)).trans K11.out)
   have HV := Lib.hid (HV.out.putj (g := G) (.inr (.inl rfl)) i (.int .i64 sC) (.slice aC nC cC) (.int .i64 tC) (.slice bC mC dC))
   have HU := Lib.hid (HU.out.putj (g := G) (.inr (.inl rfl)) i (.int .i64 sC) (.slice aC nC cC) (.int .i64 tC) (.slice bC mC dC))
   have HBx := Lib.hid (set4j_below HBx.out (show w1.heap.size ≤ G by have := HOR.out; omega) i (.int .i64 sC) (.slice aC nC cC) (.int .i64 tC) (.slice bC mC dC))
   have HRW := Lib.hid hzero
   clear hzero hC hRC hba hna
   clear q0 q1 q2 u0 u1 u2 u3 u4 u5 l4 l5
   go_wp2_with fail
   show Calls _ _ _ (set4j wa G i (.int .i64 sC) (.slice aC nC cC) (.int .i64 tC) (.slice bC mC dC)) _
   generalize set4j wa G i (.int .i64 sC) (.slice aC nC cC) (.int .i64 tC) (.slice bC mC dC) = wz at *
   generalize put4c cs i (.int .i64 sC) (.slice aC nC cC) (.int .i64 tC) (.slice bC mC dC) = cz at *
   clear g0 g1 g2 g3 f0 f1 f2 f3 lg
   refine (HICX.out _).mono ?_
   rintro e5 w55 ⟨rfl, rfl⟩
   have K4 := Lib.hid (J4.out.below HBx.out)
   have K5 := Lib.hid (J5.out.below HBx.out)
   have hbb : bb < wz.heap.size := Nat.lt_of_lt_of_le HBB.out (Nat.le_trans HB1.out.size HBx.out.size)
   have hc1 : wz.cell? ⟨bb, ob + i * 2 + 1, none⟩ = some (.int .i64 rr) := by rw [cellB HBx.out _ _ (Nat.lt_of_lt_of_le HBB.out HB1.out.size), cellB HB1.out _ _ HBB.out]; exact HC1.out
   cases mb
   ·have HRW := Lib.hid (RowA.congr (q' := PQ) HRW.out (fun j hj => by
      by_cases hji : j = i
      ·subst hji; rw [if_pos rfl, HPQI.out, if_neg (fun h => HMN.out rfl h.1)]
      ·rw [if_neg hji]))
    go_wp2_with fail
    go_roundw
    case rel => exact ⟨i + 1, ⟨s1, a1, n1, c1', t1, b1, m1, d1'⟩, cz, by rw [cloU_no HMB.out.symm], by go_num, by omega, HRW, K9, K11, HV, by rw [cloU_no HMB.out.symm]; exact HU, HBx⟩
    case measure => simp [intOf]; omega
   ·by_cases hr : rr = 0
    ·subst hr
     have hir : isRes m i = true := by rw [HIS.out]; rfl
     have HRW := Lib.hid (RowA.congr (q' := PQ) HRW.out (fun j hj => by
      by_cases hji : j = i
      ·subst hji; rw [if_pos rfl, HPQI.out, if_neg (fun h => by rw [hir] at h; cases h.2)]
      ·rw [if_neg hji]))
     have HIR := Lib.hid hir
     have HCY := Lib.hid (cloU_yes HMB.out.symm)
     clear hir
     obtain ⟨q0, q1, q2, _⟩ := blkc3 K4.out
     obtain ⟨u0, u1, u2, u3, u4, u5, _⟩ := blkc6 K5.out
     have l4 := K4.out.lt
     have l5 := K5.out.lt
     go_wp2_with fail
     go_roundw
     case rel => exact ⟨i + 1, ⟨s1, a1, n1, c1', t1, b1, m1, d1'⟩, cz, by rw [HCY.out, dirD_snoc, if_pos HIR.out], by go_num, by omega, HRW, K9, K11, HV, by rw [HCY.out, HRR.out i _ HIR.out]; exact HU, HBx⟩
     case measure => simp [intOf]; omega
    ·have hr0 : (rr == 0) = false := by simpa using hr
     have HIR := Lib.hid (show isRes m i = false by rw [HIS.out]; exact hr0)
     have HCY := Lib.hid (cloU_yes HMB.out.symm)
     have HZX := Lib.hid (HRES.out rfl HIR.out)
     have HRX := Lib.hid (HRSX.out rfl HIR.out)
     have HSX := Lib.hid (show Sz 2 OQ ∧ Sz 2 (ZQ i) ∧ Sz 2 (RQ (cloU s i)) from ⟨HSZ.out.1, HSZ.out.2.1 i hlt, HSZ.out.2.2 (cloU s i) (by have := cloU_len s i; omega) (fun k hk => by have := (clo_mem hk).1; omega)⟩)
     have HPI := Lib.hid (show PQ i = ZQ i by rw [HPQI.out, if_pos ⟨HMM.out rfl, HIR.out⟩])
     generalize volA m ⟨vo, lo, hi', ci, br, re⟩ i = VA at *
     have HOW := Lib.hid (show ∀ b, own3 X9 G X11 b → b < wz.heap.size from fun b hb => by have := HRW.out.lt; have := K9.out.lt; have := K11.out.lt; unfold own3 at hb; omega)
     have HBw := bwt HB1 HBx.out
     obtain ⟨q0, q1, q2, _⟩ := blkc3 K4.out
     obtain ⟨u0, u1, u2, u3, u4, u5, _⟩ := blkc6 K5.out
     have l4 := K4.out.lt
     have l5 := K5.out.lt
     obtain ⟨y0, y1, y2, y3, l9⟩ := blkc4 K9.out
     have lg := HRW.out.lt
     go_wp2_with fail
     have HN := Lib.hid (Below.refl wz.heap.size wz).drew
     refine wp_region_mixZ (B := wz.heap.size) [(true, 0), (true, 1), (true, 2), (true, 3), (true, 4), (true, 7), (true, 9), (true, 10), (true, 11), (true, 12), (true, 13), (true, 14), (false, 5), (false, 6), (false, 8), (false, 15), (false, 16), (true, 17), (false, 18)] 18 (by kernel_rfl) (by kernel_rfl) ?_; simp only [opsOf, List.filterMap_cons, List.filterMap_nil, List.getElem?_toArray, List.getElem?_cons_zero, List.getElem?_cons_succ, Option.map_some]
     repeat (refine mixz_head ?_; (show wpQuiet _ _ _ _ (_ :: _) _; go_big_quiet_step (fail)); refine wpQuiet_nil ?_)
     have HRW := Lib.hid (HRW.out.below (Below.refl _ _).drew)
     have HV := Lib.hid (HV.out.below (Below.refl _ _).drew)
     have HU := Lib.hid (HU.out.below (Below.refl _ _).drew)
     have K9 := Lib.hid (K9.out.below (Below.refl _ _).drew)
     have K11 := Lib.hid (K11.out.below (Below.refl _ _).drew)
     refine mixz_tail ?_; go_wp2_with fail
     refine (HTVI.out _ (HBw.out.trans (HN.out.mono HBw.out.size))).mono ?_
     rintro e11 p1 ⟨rfl, hbx⟩
     have hzx := hbx.size
     have HN := bwt HN hbx
     have HRW := Lib.hid (HRW.out.below hbx)
     have HV := Lib.hid (HV.out.below hbx)
     have HU := Lib.hid (HU.out.below hbx)
     have K9 := Lib.hid (K9.out.below hbx)
     have K11 := Lib.hid (K11.out.below hbx)
     clear hbx
     go_wp2_with fail
     refine tailL_mk HN.out ?_
     refine mixz_tail ?_; go_wp2_with fail
     refine (rb_int VA _ (by omega) (by omega)).mono ?_
     rintro ex p2 ⟨sC, aC, nC, cC, tC, bC, mC, dC, rfl, hbx, _, hCs⟩
     have HC := Lib.hid (RA.new (A := own3 X9 G X11) hCs.out (fun b hb => Nat.lt_of_lt_of_le (HOW.out b hb) HN.out.size))
     clear hCs
     have hzx := hbx.size
     have HN := bwt HN hbx
     have HRW := Lib.hid (HRW.out.below hbx)
     have HV := Lib.hid (HV.out.below hbx)
     have HU := Lib.hid (HU.out.below hbx)
     have K9 := Lib.hid (K9.out.below hbx)
     have K11 := Lib.hid (K11.out.below hbx)
     clear hbx
     go_wp2_with fail
     refine tailL_mk HN.out ?_
     refine mixz_tail ?_; go_wp2_with fail
     refine (rb_sub _ _ _ _ 1 2 _ HC.out.rb HV.out.rb (sz_int (by omega) (by omega)) HSX.out.1 (by omega)).mono ?_
     rintro ex p3 ⟨sD, aD, nD, cD, tD, bD, mD, dD, rfl, hbx, _, hDs⟩
     have HD := Lib.hid (RA.new (A := own3 X9 G X11) hDs.out (fun b hb => Nat.lt_of_lt_of_le (HOW.out b hb) HN.out.size))
     clear hDs
     have hzx := hbx.size
     have HN := bwt HN hbx
     have HRW := Lib.hid (HRW.out.below hbx)
     have HV := Lib.hid (HV.out.below hbx)
     have HU := Lib.hid (HU.out.below hbx)
     have K9 := Lib.hid (K9.out.below hbx)
     have K11 := Lib.hid (K11.out.below hbx)
     have HC := Lib.hid (HC.out.below hbx)
     clear hbx
     go_wp2_with fail
     refine tailL_mk HN.out ?_
     refine mixz_tail ?_; go_wp2_with fail
     refine (rb_int rr _ (by omega) (by omega)).mono ?_
     rintro ex p4 ⟨sE, aE, nE, cE, tE, bE, mE, dE, rfl, hbx, _, hEs⟩
     have HE := Lib.hid (RA.new (A := own3 X9 G X11) hEs.out (fun b hb => Nat.lt_of_lt_of_le (HOW.out b hb) HN.out.size))
     clear hEs
     have hzx := hbx.size
     have HN := bwt HN hbx
     have HRW := Lib.hid (HRW.out.below hbx)
     have HV := Lib.hid (HV.out.below hbx)
     have HU := Lib.hid (HU.out.below hbx)
     have K9 := Lib.hid (K9.out.below hbx)
     have K11 := Lib.hid (K11.out.below hbx)
     have HC := Lib.hid (HC.out.below hbx)
     have HD := Lib.hid (HD.out.below hbx)
     clear hbx
     go_wp2_with fail
     refine tailL_mk HN.out ?_
     refine mixz_tail ?_; go_wp2_with fail
     refine (rb_div _ _ _ _ 4 1 _ HD.out.rb HE.out.rb HZX.out.2 (sz_sub (K := 1) (M := 2) (sz_int (by omega) (by omega)) HSX.out.1) (sz_int (by omega) (by omega)) (by omega)).mono ?_
     rintro ex p5 ⟨sF, aF, nF, cF, tF, bF, mF, dF, rfl, hbx, _, hFs⟩
     have HF := Lib.hid (RA.new (A := own3 X9 G X11) hFs.out (fun b hb => Nat.lt_of_lt_of_le (HOW.out b hb) HN.out.size))
     clear hFs
     have hzx := hbx.size
     have HN := bwt HN hbx
     have HRW := Lib.hid (HRW.out.below hbx)
     have HV := Lib.hid (HV.out.below hbx)
     have HU := Lib.hid (HU.out.below hbx)
     have K9 := Lib.hid (K9.out.below hbx)
     have K11 := Lib.hid (K11.out.below hbx)
     have HC := Lib.hid (HC.out.below hbx)
     have HD := Lib.hid (HD.out.below hbx)
     have HE := Lib.hid (HE.out.below hbx)
     clear hbx
     go_wp2_with fail
     refine tailL_mk HN.out ?_
     repeat (refine mixz_head ?_; (show wpQuiet _ _ _ _ (_ :: _) _; go_big_quiet_step (fail)); refine wpQuiet_nil ?_)
     clear q0 q1 q2 u0 u1 u2 u3 u4 u5 l4 l5
     clear y0 y1 y2 y3 l9 lg
     obtain ⟨u0', u1', u2', u3', g0, g1, g2, g3, f0, f1, f2, f3⟩ := HRW.out.cells hlt
     have lg := HRW.out.lt
     refine mixz_last ?_; go_wp2_with fail
     refine tailZ_end ?_
     clear g0 g1 g2 g3 f0 f1 f2 f3 lg u0' u1' u2' u3'
     have HFZ := Lib.hid (show RA (own3 X9 G X11) p5 (.agg #[.int .i64 sF, .slice aF nF cF, .int .i64 tF, .slice bF mF dF]) (ZQ i) from by rw [← HZX.out.1]; exact HF.out)
     have hne9 : X9 ≠ G := by have := HOR.out; omega
     have hne11 : X11 ≠ G := by have := HOR.out; omega
     have K9 := Lib.hid (show BlkR (set4j p5 G i (.int .i64 sF) (.slice aF nF cF) (.int .i64 tF) (.slice bF mF dF)) X9 _ from (set4j_other p5 G i X9 _ _ _ _ hne9).trans K9.out)
     have K11 := Lib.hid (show BlkR (set4j p5 G i (.int .i64 sF) (.slice aF nF cF) (.int .i64 tF) (.slice bF mF dF)) X11 _ from (set4j_other p5 G i X11 _ _ _ _ hne11).trans K11.out)
     have HV := Lib.hid (HV.out.putj (g := G) (.inr (.inl rfl)) i (.int .i64 sF) (.slice aF nF cF) (.int .i64 tF) (.slice bF mF dF))
     have HU := Lib.hid (HU.out.putj (g := G) (.inr (.inl rfl)) i (.int .i64 sF) (.slice aF nF cF) (.int .i64 tF) (.slice bF mF dF))
     have HBx := Lib.hid (set4j_below (HBx.out.trans (HN.out.mono HBx.out.size)) (show w1.heap.size ≤ G by have := HOR.out; omega) i (.int .i64 sF) (.slice aF nF cF) (.int .i64 tF) (.slice bF mF dF))
     have hset := HRW.out.set hlt HFZ.out PQ (i + 1) HPI.out (fun k hk hne => ⟨by omega, by rw [if_neg hne]⟩)
     obtain ⟨e0, e1, e2, e3⟩ := put4c_in cz i (.int .i64 sF) (.slice aF nF cF) (.int .i64 tF) (.slice bF mF dF) (by have := HRW.out.len; omega)
     have g0 := blk_cell hset.blk e0
     have g1 := blk_cell hset.blk e1
     have g2 := blk_cell hset.blk e2
     have g3 := blk_cell hset.blk e3
     have HFZ := Lib.hid (HFZ.out.putj (g := G) (.inr (.inl rfl)) i (.int .i64 sF) (.slice aF nF cF) (.int .i64 tF) (.slice bF mF dF))
     have HRW := Lib.hid hset
     clear hset e0 e1 e2 e3 HOW HF HC HD HE HN
     go_wp2_with fail
     show Code.wp _ _ _ _ (set4j p5 G i (.int .i64 sF) (.slice aF nF cF) (.int .i64 tF) (.slice bF mF dF))
     generalize set4j p5 G i (.int .i64 sF) (.slice aF nF cF) (.int .i64 tF) (.slice bF mF dF) = wy at *
     generalize put4c cz i (.int .i64 sF) (.slice aF nF cF) (.int .i64 tF) (.slice bF mF dF) = cy at *
     have HOW := Lib.hid (show ∀ b, own3 X9 G X11 b → b < wy.heap.size from fun b hb => by have := HRW.out.lt; have := K9.out.lt; have := K11.out.lt; unfold own3 at hb; omega)
     obtain ⟨y0, y1, y2, y3, l11'⟩ := blkc4 K11.out
     have lg := HRW.out.lt
     have HN := Lib.hid (Below.refl wy.heap.size wy).drew
     refine wp_region_mixZ (B := wy.heap.size) [(true, 0), (true, 1), (true, 2), (true, 3), (true, 4), (false, 5), (false, 6)] 6 (by kernel_rfl) (by kernel_rfl) ?_; simp only [opsOf, List.filterMap_cons, List.filterMap_nil, List.getElem?_toArray, List.getElem?_cons_zero, List.getElem?_cons_succ, Option.map_some]
     repeat (refine mixz_head ?_; (show wpQuiet _ _ _ _ (_ :: _) _; go_big_quiet_step (fail)); refine wpQuiet_nil ?_)
     have HRW := Lib.hid (HRW.out.below (Below.refl _ _).drew)
     have HV := Lib.hid (HV.out.below (Below.refl _ _).drew)
     have HU := Lib.hid (HU.out.below (Below.refl _ _).drew)
     have HFZ := Lib.hid (HFZ.out.below (Below.refl _ _).drew)
     have K9 := Lib.hid (K9.out.below (Below.refl _ _).drew)
     have K11 := Lib.hid (K11.out.below (Below.refl _ _).drew)
     refine mixz_tail ?_; go_wp2_with fail
     refine (rb_sub _ _ _ _ 2 2 _ HU.out.rb HFZ.out.rb HSX.out.2.2 HSX.out.2.1 (by omega)).mono ?_
     rintro ex q1 ⟨sH, aH, nH, cH, tH, bH, mH, dH, rfl, hbx, _, hHs⟩
     have HH := Lib.hid (RA.new (A := own3 X9 G X11) hHs.out (fun b hb => Nat.lt_of_lt_of_le (HOW.out b hb) HN.out.size))
     clear hHs
     have hzx := hbx.size
     have HN := bwt HN hbx
     have HRW := Lib.hid (HRW.out.below hbx)
     have HV := Lib.hid (HV.out.below hbx)
     have HU := Lib.hid (HU.out.below hbx)
     have HFZ := Lib.hid (HFZ.out.below hbx)
     have K9 := Lib.hid (K9.out.below hbx)
     have K11 := Lib.hid (K11.out.below hbx)
     clear hbx
     go_wp2_with fail
     refine tailL_mk HN.out ?_
     clear y0 y1 y2 y3 l11' lg g0 g1 g2 g3
     obtain ⟨y0, y1, y2, y3, _⟩ := blkc4 K11.out
     have f0 := blk_fz K11.out 0
     have f1 := blk_fz K11.out 1
     have f2 := blk_fz K11.out 2
     have f3 := blk_fz K11.out 3
     have l11' := K11.out.lt
     refine mixz_last ?_; go_wp2_with fail
     refine tailZ_end ?_
     clear y0 y1 y2 y3 f0 f1 f2 f3 l11'
     have hxo := HOR.out
     have K9 := Lib.hid (show BlkR (set4 q1 X11 (.int .i64 sH) (.slice aH nH cH) (.int .i64 tH) (.slice bH mH dH)) X9 _ from (set4_other q1 X11 X9 _ _ _ _ (by omega)).trans K9.out)
     have K11 := Lib.hid (show BlkR (set4 q1 X11 (.int .i64 sH) (.slice aH nH cH) (.int .i64 tH) (.slice bH mH dH)) X11 _ from set4_same K11.out _ _ _ _)
     have HV := Lib.hid (HV.out.put (X := X11) (.inr (.inr rfl)) (.int .i64 sH) (.slice aH nH cH) (.int .i64 tH) (.slice bH mH dH))
     have HU := Lib.hid (show RA (own3 X9 G X11) _ _ (RQ (cloU s i ++ [i])) from by rw [← HRX.out]; exact HH.out.put (X := X11) (.inr (.inr rfl)) (.int .i64 sH) (.slice aH nH cH) (.int .i64 tH) (.slice bH mH dH))
     have HRW := Lib.hid (HRW.out.put (X := X11) (.inr (.inr rfl)) (by omega) (.int .i64 sH) (.slice aH nH cH) (.int .i64 tH) (.slice bH mH dH))
     have HBx := Lib.hid (set4_below (HBx.out.trans (HN.out.mono HBx.out.size)) (show w1.heap.size ≤ X11 by omega) (.int .i64 sH) (.slice aH nH cH) (.int .i64 tH) (.slice bH mH dH))
     clear hxo
     go_wp2_with fail
     go_roundw
     case rel => exact ⟨i + 1, ⟨sH, aH, nH, cH, tH, bH, mH, dH⟩, cy, by rw [HCY.out, dirD_snoc, if_neg (by rw [HIR.out]; decide)], by go_num, by omega, HRW, K9, K11, HV, by rw [HCY.out]; exact HU, HBx⟩
     case measure => simp [intOf]; omega
  ·obtain rfl : nb = i := by omega
   obtain ⟨q0, q1, q2, _⟩ := blkc3 K4.out
   obtain ⟨u0, u1, u2, u3, u4, u5, _⟩ := blkc6 K5.out
   have l4 := K4.out.lt
   have l5 := K5.out.lt
   have h6 := H6.out
   rcases dirD_cases m (cloU s nb) with ⟨hd, _⟩ | ⟨d, hd1, hd2, hd⟩
   ·rw [hd]
    have HRW := Lib.hid (RowA.congr (q' := ZQ) HRW.out (fun j hj => (HZO.out j (by rw [h6, hd]; omega)).symm))
    clear hd h6
    go_wp2
    go_ret
    exact ⟨_, G, cs, rfl, HB1.out.trans (HBx.out.mono HB1.out.size), Nat.le_trans HB1.out.size (by have := HOR.out; omega), HRW.out⟩
   ·have hdl : d < nb := HLT.out d (by rw [h6]; exact hd1)
    have hset := HRW.out.set hdl HU.out ZQ nb (by rw [HZD.out d hd2 (by rw [h6]; exact hd.symm), h6]) (fun k hk hne => ⟨hk, (HZO.out k (by rw [h6, hd]; omega)).symm⟩)
    rw [hd]
    have i0 : (0 : Int) ≤ (d : Int) := by omega
    have i1 : (d : Int) < (nb : Int) := by omega
    obtain ⟨u0', u1', u2', u3', g0, g1, g2, g3, f0, f1, f2, f3⟩ := HRW.out.cells hdl
    have lg := HRW.out.lt
    obtain ⟨y0, y1, y2, y3, l11'⟩ := blkc4 K11.out
    have HBx := Lib.hid (set4j_below HBx.out (show w1.heap.size ≤ G by have := HOR.out; omega) d (.int .i64 s1) (.slice a1 n1 c1') (.int .i64 t1) (.slice b1 m1 d1'))
    have HRW := Lib.hid hset
    have hog := HOR.out
    clear hd h6 hset hd1 hd2
    go_wp2
    go_ret
    exact ⟨_, G, _, rfl, HB1.out.trans (HBx.out.mono HB1.out.size), Nat.le_trans HB1.out.size (by omega), HRW.out⟩
end Go.Proofs.YtdjinmieogpgcaaGreat
