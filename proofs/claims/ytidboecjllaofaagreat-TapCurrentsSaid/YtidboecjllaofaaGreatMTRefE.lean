import Derived.Test.YtidboecjllaofaaGreatMPlain0
import Derived.Test.YtidboecjllaofaaGreatMTCirB
import Derived.Test.YtidboecjllaofaaGreatMTElc
/- The circulating current of the reference. -/
namespace Go.Proofs.YtidboecjllaofaaGreat
open Go.RowKit Go.Shelf
set_option linter.unusedVariables false
set_option linter.unusedSimpArgs false
attribute [local go_sem] Oper.semAt_some
set_option maxHeartbeats 2000000 in
set_option maxRecDepth 100000 in
theorem rcirculating_any (m : Mac) (l : Lim) (s : Nat) (ab ag : Option Addr) (nb cb ng cg : Nat) (w : World) (hb : BrR w ab nb m.br) (he : ElV m l s 0) :
    Calls Tryz.prog 42 #[.agg #[.slice ab nb cb, .int .i64 m.st, .slice ag ng cg], .agg #[.int .i64 l.volt, .int .i64 l.lo, .int .i64 l.hi, .int .i64 l.circ, .int .i64 l.brk, .int .i64 l.ret], .int .i64 (s : Int)] w fun e' w' => e' = .returned (.agg #[.int .i64 (cirA m l s).1, .int .i64 (cirA m l s).2]) ∧ Below w.heap.size w w' := by
 have HCU := Lib.hid (fun (W : World) (hbw : Below w.heap.size w W) => rcurrents_any m l s 0 ab ag nb cb ng cg W (hb.below hbw) he)
 have hn6 : nb ≤ 6 := by rw [← hb.len]; exact he.hm.n1
 have hlen := hb.len
 have HSZ := Lib.hid (show ∀ k, k < nb → Sz 2 (cirQ m l s k) ∧ Sz 2 (zQ m l s 0 k) from fun k hk => by
  have hco := he.com
  have hz := zcur_bd he (k := k) (by rw [hb.len]; exact hk)
  have hc := cirZ_bd (fun j hj => zcur_bd he hj) k (by rw [hb.len]; omega)
  have h7 : k * 800150400000 ≤ 6 * 800150400000 := Nat.mul_le_mul_right _ (by omega)
  exact ⟨sz_frac (by simp only [pw]; omega) hco.1 (by simp only [pw]; omega), sz_frac (by simp only [pw]; omega) hco.1 (by simp only [pw]; omega)⟩)
 have HBR := Lib.hid (fun (W : World) (hbw : Below w.heap.size w W) => hb.below hbw)
 have HPL := Lib.hid (fun (k : Nat) (ht : (bAt m.br k).tap = 1) => cirQ_plus (m := m) (l := l) (s := s) (k := k) he.com.1 ht)
 have HSK := Lib.hid (fun (k : Nat) (ht : (bAt m.br k).tap ≠ 1) => cirQ_skip (m := m) (l := l) (s := s) (k := k) ht)
 have HC0 := Lib.hid (cirQ_zero m l s)
 have hfr : frR (cirQ m l s nb) = cirF m l s m.br.length := by unfold cirQ cirF; rw [frR_low he.com.1, hb.len]
 have hbd := cirF_bd he (k := m.br.length) (Nat.le_refl _)
 have hsm : smallQ (cirQ m l s nb) = true := smallQ_of (a := (cirF m l s m.br.length).1) (b := (cirF m l s m.br.length).2) hfr (cirA_small he) (by omega)
 have HN := Lib.hid (show (cirA m l s).1 = sz (cirQ m l s nb).num ∧ (cirA m l s).2 = ((cirQ m l s nb).den : Int) from by
  have e1 : (cirF m l s m.br.length).1 = (cirQ m l s nb).num := (congrArg Prod.fst hfr).symm
  have e2 : (cirF m l s m.br.length).2 = ((cirQ m l s nb).den : Int) := (congrArg Prod.snd hfr).symm
  unfold cirA
  exact ⟨by rw [← e1], e2⟩)
 have HSM := Lib.hid hsm
 generalize cirQ m l s = CQ at *
 generalize zQ m l s 0 = ZQ at *
 obtain ⟨N, hN⟩ : ∃ N, N = (cirA m l s).1 := ⟨_, rfl⟩
 obtain ⟨D, hD⟩ : ∃ N, N = (cirA m l s).2 := ⟨_, rfl⟩
 rw [← hN, ← hD] at HN ⊢
 obtain ⟨st, hst⟩ : ∃ x, x = m.st := ⟨_, rfl⟩
 rw [← hst] at HCU ⊢
 clear hb he hst hfr hbd hsm hN hD hlen
 obtain ⟨vo, lo, hi', ci, br, re⟩ := l
 simp only at HCU ⊢
 go_enter Tryz.func42, Tryz.ntmps42
 go_wp2_with fail
 obtain ⟨w1, hW⟩ : ∃ w1, w1 = ((w.alloc (Obj.cells #[.slice ab nb cb, .int .i64 st, .slice ag ng cg] 45)).alloc (Obj.cells #[.int .i64 vo, .int .i64 lo, .int .i64 hi', .int .i64 ci, .int .i64 br, .int .i64 re] 47)) := ⟨_, rfl⟩
 have hb1 : Below w.heap.size w w1 := by rw [hW]; (repeat' first | (with_reducible first | exact bw1 | assumption | refine bw2 ?_ _ | refine bw3 ?_ ?_ _ | refine bw4 ?_ | refine bw5 ?_ ?_ _ | refine bw6 (by assumption) ?_ ?_ | exact And.left (by assumption)) | go_size)
 have k4 : BlkR w1 w.heap.size (.cells #[.slice ab nb cb, .int .i64 st, .slice ag ng cg] 45) := by
  have hba : Below (w.alloc (Obj.cells #[.slice ab nb cb, .int .i64 st, .slice ag ng cg] 45)).heap.size (w.alloc (Obj.cells #[.slice ab nb cb, .int .i64 st, .slice ag ng cg] 45)) w1 := by rw [hW]; (repeat' first | (with_reducible first | exact bw1 | assumption | refine bw2 ?_ _ | refine bw3 ?_ ?_ _ | refine bw4 ?_ | refine bw5 ?_ ?_ _ | refine bw6 (by assumption) ?_ ?_ | exact And.left (by assumption)) | go_size)
  exact BlkR.below (w := w.alloc (Obj.cells #[.slice ab nb cb, .int .i64 st, .slice ag ng cg] 45)) (heap_alloc_new _ _) hba
 have k5 : BlkR w1 (w.heap.size + 1) (.cells #[.int .i64 vo, .int .i64 lo, .int .i64 hi', .int .i64 ci, .int .i64 br, .int .i64 re] 47) := by
  show w1.heap[w.heap.size + 1]? = _
  rw [hW]
  have := heap_alloc_new (w.alloc (Obj.cells #[.slice ab nb cb, .int .i64 st, .slice ag ng cg] 45)) (Obj.cells #[.int .i64 vo, .int .i64 lo, .int .i64 hi', .int .i64 ci, .int .i64 br, .int .i64 re] 47)
  simpa using this
 obtain ⟨X4, hX4⟩ : ∃ X, X = w.heap.size := ⟨_, rfl⟩
 obtain ⟨X5, hX5⟩ : ∃ X, X = w.heap.size + 1 := ⟨_, rfl⟩
 rw [← hX5] at k5
 rw [← hX4] at k4
 have K4 := Lib.hid k4
 have K5 := Lib.hid k5
 have HB1 := Lib.hid hb1
 clear k4 k5 hb1
 rw [← hW]
 obtain ⟨w2, hW2⟩ : ∃ w2, w2 = w1.alloc (Obj.cells #[.int .i64 0, .int .i64 0] 58) := ⟨_, rfl⟩
 rw [← hW2]
 have hb2 : Below w1.heap.size w1 w2 := by rw [hW2]; (repeat' first | (with_reducible first | exact bw1 | assumption | refine bw2 ?_ _ | refine bw3 ?_ ?_ _ | refine bw4 ?_ | refine bw5 ?_ ?_ _ | refine bw6 (by assumption) ?_ ?_ | exact And.left (by assumption)) | go_size)
 have hsz : w1.heap.size = w.heap.size + 1 + 1 := by rw [hW]; simp
 have k8 : BlkR w2 (w.heap.size + 1 + 1) (.cells #[.int .i64 0, .int .i64 0] 58) := by
  show w2.heap[w.heap.size + 1 + 1]? = _
  rw [hW2, ← hsz]
  exact heap_alloc_new _ _
 obtain ⟨X8, hX8⟩ : ∃ X, X = w.heap.size + 1 + 1 := ⟨_, rfl⟩
 rw [← hX8] at k8
 simp only [← hX8]
 simp only [← hX5]
 simp only [← hX4]
 have hx8 : w.heap.size ≤ X8 := by omega
 have K4 := Lib.hid (K4.out.below hb2)
 have K5 := Lib.hid (K5.out.below hb2)
 have K8 := Lib.hid k8
 have HB := Lib.hid (HB1.out.trans (hb2.mono HB1.out.size))
 clear hX4 hX5 hX8 hW hW2 hb2 hsz HB1 k8
 obtain ⟨q0, q1, q2, _⟩ := blkc3 K4.out
 obtain ⟨u0, u1, u2, u3, u4, u5, _⟩ := blkc6 K5.out
 have l4 := K4.out.lt
 have l5 := K5.out.lt
 go_wp2_with fail
 refine (HCU.out w2 HB.out).mono ?_
 rintro ex w3 ⟨A, g, cs, rfl, hb3, hg, hrow⟩
 have hgs := hrow.lt
 go_wp2_with fail
 refine (rb_int 0 w3 (by omega) (by omega)).mono ?_
 rintro ex w4 ⟨sA, aA, nA, cA, tA, bA, mA, dA, rfl, hb4, _, hA⟩
 go_wp2_with fail
 obtain ⟨w5, hW5⟩ : ∃ w5, w5 = w4.alloc (Obj.cells #[.int .i64 sA, .slice aA nA cA, .int .i64 tA, .slice bA mA dA] 66) := ⟨_, rfl⟩
 rw [← hW5]
 have hb5 : Below w4.heap.size w4 w5 := by rw [hW5]; (repeat' first | (with_reducible first | exact bw1 | assumption | refine bw2 ?_ _ | refine bw3 ?_ ?_ _ | refine bw4 ?_ | refine bw5 ?_ ?_ _ | refine bw6 (by assumption) ?_ ?_ | exact And.left (by assumption)) | go_size)
 have k9 : BlkR w5 w4.heap.size (.cells #[.int .i64 sA, .slice aA nA cA, .int .i64 tA, .slice bA mA dA] 66) := by
  show w5.heap[w4.heap.size]? = _
  rw [hW5]
  exact heap_alloc_new _ _
 obtain ⟨X9, hX9⟩ : ∃ X, X = w4.heap.size := ⟨_, rfl⟩
 rw [← hX9] at k9
 simp only [← hX9]
 have z4 := hb4.size
 have z5 := hb5.size
 have hx9 : w3.heap.size ≤ X9 := by omega
 have hA2 := (RatioR.here hA).below hb5
 have HA0 : RA (fun b => b = X9) w5 (Qv.val ⟨sA, aA, nA, cA, tA, bA, mA, dA⟩) (CQ 0) := by
  rw [HC0.out]
  exact RatioR.mono hA2 (fun b hb => ⟨by omega, by omega⟩)
 have HB3 := Lib.hid (HB.out.trans (hb3.mono HB.out.size))
 have HROW := Lib.hid (fun (W : World) (h : Below w3.heap.size w3 W) => hrow.below h)
 have J4 := Lib.hid (K4.out.below hb3)
 have J8 := Lib.hid (K8.out.below hb3)
 have HU := Lib.hid HA0
 have K9 := Lib.hid k9
 have HBx := Lib.hid (hb4.trans (hb5.mono z4))
 clear q0 q1 q2 u0 u1 u2 u3 u4 u5 l4 l5
 clear hA hA2 HA0 hb3 hb4 hb5 hrow hg hgs z4 z5 hX9 hW5 k9 K4 K5 K8 HCU HC0
 go_loopw [9] (fun x wr => ∃ (k : Nat) (u : Qv), x = .int .i64 (k : Int) ∧ k ≤ nb ∧ Hid (BlkR wr X9 (.cells u.row 66)) ∧ Hid (RA (fun b => b = X9) wr u.val (CQ k)) ∧ Hid (Below w3.heap.size w3 wr)) (fun x _ => nb - (intOf x).toNat)
 case atStart => exact ⟨0, ⟨sA, aA, nA, cA, tA, bA, mA, dA⟩, rfl, Nat.zero_le _, K9, HU, HBx⟩
 case round =>
  clear K9 HU HBx
  obtain ⟨k, ⟨s1, a1, n1, c1', t1, b1, m1, d1'⟩, rfl, hk, K9, HU, HBx⟩ := hrel
  have i0 : (0 : Int) ≤ (k : Int) := by omega
  have K9 := Lib.hid (show BlkR wr X9 (.cells #[.int .i64 s1, .slice a1 n1 c1', .int .i64 t1, .slice b1 m1 d1'] 66) from K9.out)
  have HU := Lib.hid (show RA (fun b => b = X9) wr (.agg #[.int .i64 s1, .slice a1 n1 c1', .int .i64 t1, .slice b1 m1 d1']) _ from HU.out)
  have HRW := Lib.hid (HROW.out wr HBx.out)
  have K4 := Lib.hid (J4.out.below HBx.out)
  by_cases hlt : k < nb
  ·have i1 : (k : Int) < (nb : Int) := by omega
   obtain ⟨sE, aE, nE, cE, tE, bE, mE, dE, g0, g1, g2, g3, hra⟩ := HRW.out.at hlt
   have HE := Lib.hid hra
   have lg := HRW.out.lt
   have HBw := Lib.hid (HB3.out.trans (HBx.out.mono HB3.out.size))
   obtain ⟨bb, ob, rfl, hbb, hcc⟩ := (HBR.out _ HBw.out).addr (by omega)
   obtain ⟨c0, _⟩ := hcc k hlt
   obtain ⟨rr, hrr⟩ : ∃ r, r = (bAt m.br k).tap := ⟨_, rfl⟩
   have HPLX := Lib.hid (fun h => HPL.out k h)
   have HSKX := Lib.hid (fun h => HSK.out k h)
   rw [← hrr] at c0 HPLX HSKX
   have q0 := blk_cell K4.out (i := 0) rfl
   have l4 := K4.out.lt
   clear hcc hrr hra
   by_cases ht : rr = 1
   ·subst ht
    have HSX := Lib.hid (HSZ.out k hlt)
    have HOW := Lib.hid (show ∀ b, b = X9 → b < wr.heap.size from fun b hb => by have := K9.out.lt; omega)
    obtain ⟨y0, y1, y2, y3, _⟩ := blkc4 K9.out
    have f0 := blk_fz K9.out 0
    have f1 := blk_fz K9.out 1
    have f2 := blk_fz K9.out 2
    have f3 := blk_fz K9.out 3
    have l9 := K9.out.lt
    go_wp2_with fail
    have HN := Lib.hid (Below.refl wr.heap.size wr).drew
    refine wp_region_mixZ (B := wr.heap.size) [(true, 0), (true, 1), (true, 2), (true, 3), (true, 4), (false, 5), (false, 6)] 6 (by kernel_rfl) (by kernel_rfl) ?_; simp only [opsOf, List.filterMap_cons, List.filterMap_nil, List.getElem?_toArray, List.getElem?_cons_zero, List.getElem?_cons_succ, Option.map_some]
    repeat (refine mixz_head ?_; (show wpQuiet _ _ _ _ (_ :: _) _; go_big_quiet_step (fail)); refine wpQuiet_nil ?_)
    have HU := Lib.hid (HU.out.below (Below.refl _ _).drew)
    have HE := Lib.hid (HE.out.below (Below.refl _ _).drew)
    have K9 := Lib.hid (K9.out.below (Below.refl _ _).drew)
    refine mixz_tail ?_; go_wp2_with fail
    refine (rb_add _ _ _ _ 2 2 _ HU.out.rb HE.out.rb HSX.out.1 HSX.out.2 (by omega)).mono ?_
    rintro ex p1 ⟨sH, aH, nH, cH, tH, bH, mH, dH, rfl, hbx, _, hHs⟩
    have HH := Lib.hid (RA.new (A := fun b => b = X9) hHs.out (fun b hb => Nat.lt_of_lt_of_le (HOW.out b hb) HN.out.size))
    clear hHs
    have hzx := hbx.size
    have HN := Lib.hid (HN.out.trans (hbx.mono HN.out.size))
    have HU := Lib.hid (HU.out.below hbx)
    have HE := Lib.hid (HE.out.below hbx)
    have K9 := Lib.hid (K9.out.below hbx)
    clear hbx
    go_wp2_with fail
    refine tailL_mk HN.out ?_
    clear y0 y1 y2 y3 f0 f1 f2 f3 l9
    obtain ⟨y0, y1, y2, y3, _⟩ := blkc4 K9.out
    have f0 := blk_fz K9.out 0
    have f1 := blk_fz K9.out 1
    have f2 := blk_fz K9.out 2
    have f3 := blk_fz K9.out 3
    have l9 := K9.out.lt
    refine mixz_last ?_; go_wp2_with fail
    refine tailZ_end ?_
    clear y0 y1 y2 y3 f0 f1 f2 f3 l9
    have K9 := Lib.hid (show BlkR (set4 p1 X9 (.int .i64 sH) (.slice aH nH cH) (.int .i64 tH) (.slice bH mH dH)) X9 _ from set4_same K9.out _ _ _ _)
    have HU := Lib.hid (show RA (fun b => b = X9) _ _ (CQ (k + 1)) from by rw [← HPLX.out (by first | rfl | trivial)]; exact HH.out.put (X := X9) rfl (.int .i64 sH) (.slice aH nH cH) (.int .i64 tH) (.slice bH mH dH))
    have HBx := Lib.hid (set4_below (HBx.out.trans (HN.out.mono HBx.out.size)) hx9 (.int .i64 sH) (.slice aH nH cH) (.int .i64 tH) (.slice bH mH dH))
    clear g0 g1 g2 g3 c0 q0 l4
    go_wp2_with fail
    go_roundw
    case rel => exact ⟨k + 1, ⟨sH, aH, nH, cH, tH, bH, mH, dH⟩, by go_num, by omega, K9, HU, HBx⟩
    case measure => simp [intOf]; omega
   ·have hr0 : (rr == 1) = false := by simpa using ht
    have HSKY := Lib.hid (HSKX.out ht)
    clear ht
    go_wp2_with fail
    go_roundw
    case rel => exact ⟨k + 1, ⟨s1, a1, n1, c1', t1, b1, m1, d1'⟩, by go_num, by omega, K9, by rw [HSKY.out]; exact HU, HBx⟩
    case measure => simp [intOf]; omega
  ·obtain rfl : nb = k := by omega
   have HBw := Lib.hid (HB3.out.trans (HBx.out.mono HB3.out.size))
   obtain ⟨y0, y1, y2, y3, _⟩ := blkc4 K9.out
   have f0 := blk_fz K9.out 0
   have f1 := blk_fz K9.out 1
   have f2 := blk_fz K9.out 2
   have f3 := blk_fz K9.out 3
   have l9 := K9.out.lt
   go_wp2_with fail
   refine (rsize_any s1 t1 a1 b1 n1 c1' m1 d1' (CQ nb) wr HU.out.rb HSM.out).mono ?_
   rintro ey w7 ⟨rfl, hb7⟩
   rw [← HN.out.1, ← HN.out.2]
   have K8 := Lib.hid ((J8.out.below HBx.out).below hb7)
   have HBy := Lib.hid (HBw.out.trans (hb7.mono HBw.out.size))
   clear y0 y1 y2 y3 f0 f1 f2 f3 l9
   clear hb7
   obtain ⟨d80, d81, _⟩ := blkc2 K8.out
   have f80 := blk_fz K8.out 0
   have f81 := blk_fz K8.out 1
   have l8 := K8.out.lt
   go_wp2
   refine bodyPost_ret (v := .agg #[.int .i64 N, .int .i64 D]) ?_ rfl ⟨rfl, (HBy.out.setCell hx8 _).setCell hx8 _⟩
   have kw := blk_put2 K8.out (.int .i64 N) (.int .i64 D)
   generalize World.setCell (World.setCell _ _ _) _ _ = wz at *
   obtain ⟨e80, e81, _⟩ := blkc2 kw
   simp [results, Tryz.results42, go_sem, e80, e81]
end Go.Proofs.YtidboecjllaofaaGreat

/- Regulators, moments and pairs, in plain words. No program in sight. -/
namespace Go.Proofs.YtidboecjllaofaaGreat
set_option linter.unusedVariables false
structure Reg where
 tgt : Int
 band : Int
 dly : Int
 stp : Int
 lo : Int
 hi : Int
deriving DecidableEq
structure Mom where
 tap : Int
 wait : Int
deriving DecidableEq
def regB (r : Reg) : Bool := wi r.tgt (-10000) 10000 && wi r.band 0 10000 && wi r.dly 1 20 && wi r.stp 1 10000 && wi r.lo (-40) 40 && wi r.hi (-40) 40
def regE (r : Reg) : Int := firstErr [unl (regB r) 2, unl (decide (r.lo ≤ r.hi)) 9]
def momE (r : Reg) (m : Mom) : Int := unl (wi m.tap r.lo r.hi && wi m.wait (1 - r.dly) (r.dly - 1)) 2
def swE (d : Int) : Int := unl (wi d (-10000) 10000) 2
theorem unl_zero' {b : Bool} {e : Int} (he : e ≠ 0) : unl b e = 0 ↔ b = true := by
 unfold unl; cases b <;> simp [he]
theorem firstErr_zero' {x : Int} {r : List Int} : firstErr (x :: r) = 0 ↔ x = 0 ∧ firstErr r = 0 := by
 show (if x = 0 then firstErr r else x) = 0 ↔ _
 split
 ·next h => simp [h]
 ·next h => simp [h]
structure RegV (r : Reg) : Prop where
 t0 : -10000 ≤ r.tgt
 t1 : r.tgt ≤ 10000
 b0 : 0 ≤ r.band
 b1 : r.band ≤ 10000
 d0 : 1 ≤ r.dly
 d1 : r.dly ≤ 20
 s0 : 1 ≤ r.stp
 s1 : r.stp ≤ 10000
 l0 : -40 ≤ r.lo
 l1 : r.lo ≤ r.hi
 h1 : r.hi ≤ 40
def MomV (r : Reg) (m : Mom) : Prop := (r.lo ≤ m.tap ∧ m.tap ≤ r.hi) ∧ 1 - r.dly ≤ m.wait ∧ m.wait ≤ r.dly - 1
theorem regE_zero {r : Reg} : regE r = 0 ↔ RegV r := by
 unfold regE regB
 rw [firstErr_zero', firstErr_zero', unl_zero' (by decide), unl_zero' (by decide)]
 simp only [Bool.and_eq_true, wi_iff, decide_eq_true_eq]
 constructor
 ·rintro ⟨⟨⟨⟨⟨⟨a, b⟩, c⟩, d⟩, e⟩, f⟩, g, _⟩
  exact ⟨a.1, a.2, b.1, b.2, c.1, c.2, d.1, d.2, e.1, g, f.2⟩
 ·intro h
  exact ⟨⟨⟨⟨⟨⟨⟨h.t0, h.t1⟩, h.b0, h.b1⟩, h.d0, h.d1⟩, h.s0, h.s1⟩, h.l0, by have := h.l1; have := h.h1; omega⟩, by have := h.l0; have := h.l1; omega, h.h1⟩, h.l1, rfl⟩
theorem momE_zero {r : Reg} {m : Mom} : momE r m = 0 ↔ MomV r m := by
 unfold momE MomV
 rw [unl_zero' (by decide)]
 simp only [Bool.and_eq_true, wi_iff]
theorem swE_zero {d : Int} : swE d = 0 ↔ -10000 ≤ d ∧ d ≤ 10000 := by
 unfold swE
 rw [unl_zero' (by decide), wi_iff]
def act (r : Reg) (m : Mom) (v : Int) : Mom :=
 if r.tgt - r.band ≤ v ∧ v ≤ r.tgt + r.band then ⟨m.tap, 0⟩
 else if v < r.tgt then (if -r.dly < min m.wait 0 - 1 then ⟨m.tap, min m.wait 0 - 1⟩ else ⟨min (m.tap + 1) r.hi, 0⟩)
 else (if max m.wait 0 + 1 < r.dly then ⟨m.tap, max m.wait 0 + 1⟩ else ⟨max (m.tap - 1) r.lo, 0⟩)
theorem act_valid {r : Reg} (hr : RegV r) {m : Mom} (hm : MomV r m) (v : Int) : MomV r (act r m v) := by
 obtain ⟨⟨h1, h2⟩, h3, h4⟩ := hm
 have := hr.d0
 have := hr.l1
 unfold act MomV
 split
 ·exact ⟨⟨h1, h2⟩, by simp only; omega, by simp only; omega⟩
 ·split
  ·split
   ·exact ⟨⟨h1, h2⟩, by simp only; omega, by simp only; omega⟩
   ·exact ⟨⟨by simp only; omega, by simp only; omega⟩, by simp only; omega, by simp only; omega⟩
  ·split
   ·exact ⟨⟨h1, h2⟩, by simp only; omega, by simp only; omega⟩
   ·exact ⟨⟨by simp only; omega, by simp only; omega⟩, by simp only; omega, by simp only; omega⟩
def vol (r : Reg) (d t : Int) : Int := d + r.stp * t
def tick (r : Reg) (d : Int) (m : Mom) : Mom := act r m (vol r d m.tap)
theorem tick_valid {r : Reg} (hr : RegV r) (d : Int) (m : Mom) (hm : MomV r m) : MomV r (tick r d m) := act_valid hr hm _
def mvT (r : Reg) (d : Int) (m : Mom) : Bool := decide (m.tap ≠ (tick r d m).tap)
def codeM (m : Mom) : Nat := ((m.tap + 40) * 40 + (m.wait + 19)).toNat
theorem codeM_lt {r : Reg} (hr : RegV r) (m : Mom) (h : MomV r m) : codeM m < 3240 := by
 obtain ⟨⟨h1, h2⟩, h3, h4⟩ := h
 have := hr.l0
 have := hr.h1
 have := hr.d1
 unfold codeM
 omega
theorem codeM_inj {r : Reg} (hr : RegV r) (a b : Mom) (ha : MomV r a) (hb : MomV r b) (h : codeM a = codeM b) : a = b := by
 obtain ⟨⟨h1, h2⟩, h3, h4⟩ := ha
 obtain ⟨⟨g1, g2⟩, g3, g4⟩ := hb
 have := hr.l0
 have := hr.h1
 have := hr.d1
 unfold codeM at h
 cases a; cases b
 simp only [Mom.mk.injEq] at *
 omega
theorem tick_bound {r : Reg} (hr : RegV r) {d : Int} {m : Mom} (hm : MomV r m) {T : Nat} (h : ∀ i j, i < j → j < T → itr (tick r d) m i ≠ itr (tick r d) m j) : T ≤ 3240 :=
 rep_bound (p := MomV r) codeM (tick_valid hr d) hm (codeM_lt hr) (codeM_inj hr) h
structure Pai where
 a : Reg
 b : Reg
 ma : Mom
 mb : Mom
deriving DecidableEq
def volP (p : Pai) (d : Int) : Int := d + (p.a.stp * p.ma.tap + p.b.stp * p.mb.tap) / 2
def tickP (d : Int) (p : Pai) : Pai := ⟨p.a, p.b, act p.a p.ma (volP p d), act p.b p.mb (volP p d)⟩
def PaiV (p : Pai) : Prop := RegV p.a ∧ RegV p.b ∧ MomV p.a p.ma ∧ MomV p.b p.mb
theorem tickP_valid (d : Int) (p : Pai) (h : PaiV p) : PaiV (tickP d p) := ⟨h.1, h.2.1, act_valid h.1 h.2.2.1 _, act_valid h.2.1 h.2.2.2 _⟩
def mvP (d : Int) (p : Pai) : Bool := decide (p.ma.tap ≠ (tickP d p).ma.tap) || decide (p.mb.tap ≠ (tickP d p).mb.tap)
theorem tickP_bound {d : Int} {p : Pai} (hp : PaiV p) {T : Nat} (h : ∀ i j, i < j → j < T → itr (tickP d) p i ≠ itr (tickP d) p j) : T ≤ 10497600 := by
 refine rep_bound (f := tickP d) (p := fun q => (q.a = p.a ∧ q.b = p.b) ∧ PaiV q) (fun q => codeM q.ma * 3240 + codeM q.mb) (fun q hq => ⟨hq.1, tickP_valid d q hq.2⟩) ⟨⟨rfl, rfl⟩, hp⟩ (fun q hq => ?_) (fun x y hx hy he => ?_) h
 ·have h1 := codeM_lt hq.2.1 q.ma hq.2.2.2.1
  have h2 := codeM_lt hq.2.2.1 q.mb hq.2.2.2.2
  omega
 ·have h1 := codeM_lt hx.2.1 x.ma hx.2.2.2.1
  have h2 := codeM_lt hx.2.2.1 x.mb hx.2.2.2.2
  have h3 := codeM_lt hy.2.1 y.ma hy.2.2.2.1
  have h4 := codeM_lt hy.2.2.1 y.mb hy.2.2.2.2
  have e1 : codeM x.ma = codeM y.ma := by omega
  have e2 : codeM x.mb = codeM y.mb := by omega
  have g1 : x.ma = y.ma := codeM_inj hx.2.1 _ _ hx.2.2.2.1 (by have := hy.2.2.2.1; rw [hy.1.1, ← hx.1.1] at this; exact this) e1
  have g2 : x.mb = y.mb := codeM_inj hx.2.2.1 _ _ hx.2.2.2.2 (by have := hy.2.2.2.2; rw [hy.1.2, ← hx.1.2] at this; exact this) e2
  obtain ⟨⟨a1, a2⟩, _⟩ := hx
  obtain ⟨⟨b1, b2⟩, _⟩ := hy
  cases x; cases y
  simp only at *
  subst g1 g2
  rw [a1, a2, b1, b2]
end Go.Proofs.YtidboecjllaofaaGreat
