import Derived.Test.YtidboecjllaofaaGreatMTElx
import Derived.Test.YtidboecjllaofaaGreatMTRefE
import Derived.Test.YtidboecjllaofaaGreatMTSet
/- The law TapCurrents: limits, currents, the output and the circulating current are as specified. -/
namespace Go.Proofs.YtidboecjllaofaaGreat
open Go.RowKit Go.Shelf
set_option linter.unusedVariables false
set_option linter.unusedSimpArgs false
theorem fe1' {x : Int} {l : List Int} (h : x ≠ 0) : firstErr (x :: l) = x := by show (if x = 0 then _ else x) = x; rw [if_neg h]
theorem fe0' {l : List Int} : firstErr (0 :: l) = firstErr l := by show (if (0 : Int) = 0 then _ else _) = _; rw [if_pos rfl]
theorem eleE_a {m : Mac} {l : Lim} (s load : Int) (h : opnE m l ≠ 0) : eleE m l s load = opnE m l := by
 have h1 : eleZ m l s load = opnE m l := by show firstErr [opnE m l, _, _] = _; exact fe1' h
 unfold eleE
 rw [h1, if_pos h]
theorem eleE_b {m : Mac} {l : Lim} {s : Int} (load : Int) (h : opnE m l = 0) (h2 : staE m.br.length s ≠ 0) : eleE m l s load = staE m.br.length s := by
 have h1 : eleZ m l s load = staE m.br.length s := by show firstErr [opnE m l, _, _] = _; rw [h, fe0', fe1' h2]
 unfold eleE
 rw [h1, if_pos h2]
theorem eleE_c {m : Mac} {l : Lim} {s load : Int} (h : opnE m l = 0) (h2 : staE m.br.length s = 0) (h3 : loaE load ≠ 0) : eleE m l s load = loaE load := by
 have h1 : eleZ m l s load = loaE load := by show firstErr [opnE m l, _, _] = _; rw [h, fe0', h2, fe0', fe1' h3]
 unfold eleE
 rw [h1, if_pos h3]
theorem eleE_d {m : Mac} {l : Lim} {n : Nat} {load : Int} (h : opnE m l = 0) (h2 : staE m.br.length (n : Int) = 0) (h3 : loaE load = 0) : eleE m l (n : Int) load = curE m n := by
 have h1 : eleZ m l (n : Int) load = 0 := by show firstErr [opnE m l, _, _] = _; rw [h, fe0', h2, fe0', h3, fe0']; rfl
 unfold eleE
 rw [h1, if_neg (by decide), Int.toNat_natCast]
theorem sta_nat {m : Mac} {s : Int} (h : staE m.br.length s = 0) : ∃ n : Nat, s = (n : Int) ∧ n < 2 ^ m.br.length := by
 rw [staE_zero] at h
 refine ⟨s.toNat, by omega, ?_⟩
 have : ((2 ^ m.br.length : Nat) : Int) = (2 : Int) ^ m.br.length := by push_cast; rfl
 omega
structure CurL (m : Mac) (l : Lim) (s load : Int) (E E0 : Int) (CT : List (Int × Int)) (V N : Int × Int) : Prop where
 a : opnE m l ≠ 0 → E = opnE m l ∧ E0 = opnE m l
 b : opnE m l = 0 → staE m.br.length s ≠ 0 → E = staE m.br.length s ∧ E0 = staE m.br.length s
 bad : E ≠ 0 → CT = [] ∧ V = (0, 0)
 bad0 : E0 ≠ 0 → N = (0, 0)
 ok : opnE m l = 0 → staE m.br.length s = 0 → ∃ n : Nat, s = (n : Int) ∧ n < 2 ^ m.br.length ∧ MacV m ∧ limE l = 0 ∧ E0 = curE m n ∧ (loaE load ≠ 0 → E = loaE load) ∧ (loaE load = 0 → E = curE m n) ∧ (curE m n = 0 → ElV m l n 0 ∧ N = cirA m l n) ∧ (curE m n = 0 → loaE load = 0 → ElV m l n load ∧ CT = curT m l n load ∧ V = outT m l n load)
theorem curLaw (m : Mac) (l : Lim) (s load : Int) : CurL m l s load (eleE m l s load) (eleE m l s 0) (if eleE m l s load = 0 then curT m l s.toNat load else []) (oinV m l s load) (cinV m l s) := by
 have h00 : loaE 0 = 0 := by rw [loaE_zero]; omega
 refine ⟨fun h => ⟨eleE_a s load h, eleE_a s 0 h⟩, fun h h2 => ⟨eleE_b load h h2, eleE_b 0 h h2⟩, fun h => ⟨if_neg h, if_neg h⟩, fun h => if_neg h, fun h h2 => ?_⟩
 obtain ⟨hm, hl⟩ := opnE_zero h
 obtain ⟨n, rfl, hn⟩ := sta_nat h2
 have e0 := eleE_d (load := 0) h h2 h00
 have key : ∀ load, loaE load = 0 → curE m n = 0 → ElV m l n load := fun load h3 h4 => ⟨hm, (limE_zero.1 hl).1, loaE_zero.1 h3, hn, curE_s0 h4⟩
 refine ⟨n, rfl, hn, hm, hl, e0, fun h3 => eleE_c h h2 h3, fun h3 => eleE_d h h2 h3, fun h4 => ⟨key 0 h00 h4, ?_⟩, fun h4 h3 => ⟨key load h3 h4, ?_, ?_⟩⟩
 ·unfold cinV; rw [e0, if_pos h4, Int.toNat_natCast]
 ·rw [eleE_d h h2 h3, if_pos h4, Int.toNat_natCast]
 ·unfold oinV; rw [eleE_d h h2 h3, if_pos h4, Int.toNat_natCast]
set_option maxHeartbeats 4000000 in
set_option maxRecDepth 100000 in
theorem cur_law (m : Mac) (l : Lim) (x0 x1 x2 : Int) (ab ag : Option Addr) (nb cb ng cg : Nat) (w : World) (hb : BrR w ab nb m.br) (hg : GrR w ag ng m.gs) :
    Calls Tryz.prog 5 #[.agg #[.slice ab nb cb, .int .i64 m.st, .slice ag ng cg], .agg #[.int .i64 l.volt, .int .i64 l.lo, .int .i64 l.hi, .int .i64 l.circ, .int .i64 l.brk, .int .i64 l.ret], .agg #[.int .i64 x0, .int .i64 x1, .int .i64 x2]] w fun e' w' => e' = .returned (.bool true) ∧ Below w.heap.size w w' := by
 have HFW := Lib.hid (fun (W : World) => few_any m.st ab ag nb cb ng cg W hb.small hg.small)
 have HCP0 := Lib.hid (fun (h1 : nb ≤ 8) (h2 : ng ≤ 32) (W : World) (hbw : Below w.heap.size w W) => copyM_any m ab ag nb cb ng cg W (hb.below hbw) (hg.below hbw) (by omega) (by omega))
 have HCI0 := Lib.hid (fun (h8 : nb ≤ 8) (a1 a2 : Option Addr) (c1 c2 : Nat) (W : World) (h1 : BrR W a1 nb m.br) (h2 : GrR W a2 ng m.gs) => currentsIn_any m l x0 x2 a1 a2 nb c1 ng c2 W h1 h2 h8)
 have HOI0 := Lib.hid (fun (h8 : nb ≤ 8) (a1 a2 : Option Addr) (c1 c2 : Nat) (W : World) (h1 : BrR W a1 nb m.br) (h2 : GrR W a2 ng m.gs) => outputIn_any m l x0 x2 a1 a2 nb c1 ng c2 W h1 h2 h8)
 have HNI0 := Lib.hid (fun (h8 : nb ≤ 8) (a1 a2 : Option Addr) (c1 c2 : Nat) (W : World) (h1 : BrR W a1 nb m.br) (h2 : GrR W a2 ng m.gs) => circulatingIn_any m l x0 a1 a2 nb c1 ng c2 W h1 h2 h8)
 have HCL := Lib.hid (fun (W : World) => checkLimits_any l W)
 have HRL := Lib.hid (fun (W : World) => rLimE_any l W)
 have HBE := Lib.hid (fun (W : World) (hbw : Below w.heap.size w W) => show Calls Tryz.prog 22 #[.agg #[.slice ab nb cb, .int .i64 m.st, .slice ag ng cg], .agg #[.int .i64 l.volt, .int .i64 l.lo, .int .i64 l.hi, .int .i64 l.circ, .int .i64 l.brk, .int .i64 l.ret]] W (fun e' w' => e' = .returned (.int .i64 (opnE m l)) ∧ Below W.heap.size W w') from bothErr_any m l ab ag nb cb ng cg W (hb.below hbw) (hg.below hbw))
 have HSE0 := Lib.hid (fun (h8 : nb ≤ 8) (W : World) => rStaE_any m.st nb cb ng cg ab ag x0 W h8)
 have HLE := Lib.hid (fun (W : World) => rLoaE_any x2 W)
 have hlen := hb.len
 have HCE := Lib.hid (fun (hm : MacV m) (n : Nat) (hn : n < 2 ^ nb) (W : World) (hbw : Below w.heap.size w W) => rCurrentsErr_any m n ab ag nb cb ng cg W hm (hb.below hbw) hn)
 have HRN := Lib.hid (fun (n : Nat) (he : ElV m l n 0) (W : World) (hbw : Below w.heap.size w W) => rcirculating_any m l n ab ag nb cb ng cg W (hb.below hbw) he)
 have HRO := Lib.hid (fun (n : Nat) (he : ElV m l n x2) (W : World) (hbw : Below w.heap.size w W) => routputF_any m l n x2 ab ag nb cb ng cg W (hb.below hbw) he)
 have HRC := Lib.hid (fun (n : Nat) (he : ElV m l n x2) (W : World) (hbw : Below w.heap.size w W) => rcurrentsF_any m l n x2 ab ag nb cb ng cg W (hb.below hbw) he)
 have HL := Lib.hid (curLaw m l x0 x2)
 obtain ⟨OE, hOE⟩ : ∃ O, O = opnE m l := ⟨_, rfl⟩
 rw [← hOE] at HBE
 have HOE := Lib.hid hOE
 obtain ⟨SE, hSE⟩ : ∃ O, O = staE nb x0 := ⟨_, rfl⟩
 rw [← hSE] at HSE0
 have HSQ := Lib.hid (show SE = staE m.br.length x0 by rw [hSE, hlen])
 obtain ⟨OL, hOL⟩ : ∃ O, O = loaE x2 := ⟨_, rfl⟩
 rw [← hOL] at HLE
 have HLQ := Lib.hid hOL
 clear hOE hSE hOL
 have HLN := Lib.hid hlen
 obtain ⟨CT, hCT⟩ : ∃ CT, CT = (if eleE m l x0 x2 = 0 then curT m l x0.toNat x2 else []) := ⟨_, rfl⟩
 rw [← hCT] at HCI0 HL
 generalize oinV m l x0 x2 = V at *
 generalize cinV m l x0 = N at *
 generalize eleE m l x0 x2 = E at *
 generalize eleE m l x0 0 = E0 at *
 generalize limE l = LE at HCL HRL
 obtain ⟨V1, V2⟩ := V
 obtain ⟨N1, N2⟩ := N
 obtain ⟨st, hst⟩ : ∃ x, x = m.st := ⟨_, rfl⟩
 rw [← hst] at HFW HCP0 HCI0 HOI0 HNI0 HBE HSE0 HCE HRN HRO HRC ⊢
 clear hb hg hst hCT hlen
 obtain ⟨vo, lo, hi', ci, br, re⟩ := l
 simp only at HCI0 HOI0 HNI0 HCL HRL HBE HRN HRO HRC ⊢
 generalize hLM : (⟨vo, lo, hi', ci, br, re⟩ : Lim) = L at *
 have HLM := Lib.hid hLM
 clear hLM
 go_enter Tryz.func5, Tryz.ntmps5
 go_wp2_with fail
 obtain ⟨w1, hW⟩ : ∃ w1, w1 = (((w.alloc (Obj.cells #[.slice ab nb cb, .int .i64 st, .slice ag ng cg] 45)).alloc (Obj.cells #[.int .i64 vo, .int .i64 lo, .int .i64 hi', .int .i64 ci, .int .i64 br, .int .i64 re] 47)).alloc (Obj.cells #[.int .i64 x0, .int .i64 x1, .int .i64 x2] 49)) := ⟨_, rfl⟩
 rw [← hW]
 have hb1 : Below w.heap.size w w1 := by rw [hW]; (repeat' first | (with_reducible first | exact bw1 | assumption | refine bw2 ?_ _ | refine bw3 ?_ ?_ _ | refine bw4 ?_ | refine bw5 ?_ ?_ _ | refine bw6 (by assumption) ?_ ?_ | exact And.left (by assumption)) | go_size)
 have k3 : BlkR w1 w.heap.size (.cells #[.slice ab nb cb, .int .i64 st, .slice ag ng cg] 45) := by
  have hba : Below (w.alloc (Obj.cells #[.slice ab nb cb, .int .i64 st, .slice ag ng cg] 45)).heap.size (w.alloc (Obj.cells #[.slice ab nb cb, .int .i64 st, .slice ag ng cg] 45)) w1 := by rw [hW]; (repeat' first | (with_reducible first | exact bw1 | assumption | refine bw2 ?_ _ | refine bw3 ?_ ?_ _ | refine bw4 ?_ | refine bw5 ?_ ?_ _ | refine bw6 (by assumption) ?_ ?_ | exact And.left (by assumption)) | go_size)
  exact BlkR.below (w := w.alloc (Obj.cells #[.slice ab nb cb, .int .i64 st, .slice ag ng cg] 45)) (heap_alloc_new _ _) hba
 have k4 : BlkR w1 (w.heap.size + 1) (.cells #[.int .i64 vo, .int .i64 lo, .int .i64 hi', .int .i64 ci, .int .i64 br, .int .i64 re] 47) := by
  have hba : Below ((w.alloc (Obj.cells #[.slice ab nb cb, .int .i64 st, .slice ag ng cg] 45)).alloc (Obj.cells #[.int .i64 vo, .int .i64 lo, .int .i64 hi', .int .i64 ci, .int .i64 br, .int .i64 re] 47)).heap.size ((w.alloc (Obj.cells #[.slice ab nb cb, .int .i64 st, .slice ag ng cg] 45)).alloc (Obj.cells #[.int .i64 vo, .int .i64 lo, .int .i64 hi', .int .i64 ci, .int .i64 br, .int .i64 re] 47)) w1 := by rw [hW]; (repeat' first | (with_reducible first | exact bw1 | assumption | refine bw2 ?_ _ | refine bw3 ?_ ?_ _ | refine bw4 ?_ | refine bw5 ?_ ?_ _ | refine bw6 (by assumption) ?_ ?_ | exact And.left (by assumption)) | go_size)
  refine BlkR.below (w := (w.alloc (Obj.cells #[.slice ab nb cb, .int .i64 st, .slice ag ng cg] 45)).alloc (Obj.cells #[.int .i64 vo, .int .i64 lo, .int .i64 hi', .int .i64 ci, .int .i64 br, .int .i64 re] 47)) ?_ hba
  have := heap_alloc_new (w.alloc (Obj.cells #[.slice ab nb cb, .int .i64 st, .slice ag ng cg] 45)) (Obj.cells #[.int .i64 vo, .int .i64 lo, .int .i64 hi', .int .i64 ci, .int .i64 br, .int .i64 re] 47)
  show _ = _
  simpa using this
 have k5 : BlkR w1 (w.heap.size + 1 + 1) (.cells #[.int .i64 x0, .int .i64 x1, .int .i64 x2] 49) := by
  show w1.heap[w.heap.size + 1 + 1]? = _
  rw [hW]
  have := heap_alloc_new ((w.alloc (Obj.cells #[.slice ab nb cb, .int .i64 st, .slice ag ng cg] 45)).alloc (Obj.cells #[.int .i64 vo, .int .i64 lo, .int .i64 hi', .int .i64 ci, .int .i64 br, .int .i64 re] 47)) (Obj.cells #[.int .i64 x0, .int .i64 x1, .int .i64 x2] 49)
  simpa using this
 obtain ⟨X3, hX3⟩ : ∃ X, X = w.heap.size := ⟨_, rfl⟩
 obtain ⟨X4, hX4⟩ : ∃ X, X = w.heap.size + 1 := ⟨_, rfl⟩
 obtain ⟨X5, hX5⟩ : ∃ X, X = w.heap.size + 1 + 1 := ⟨_, rfl⟩
 rw [← hX5] at k5
 rw [← hX4] at k4
 rw [← hX3] at k3
 simp only [← hX5]
 simp only [← hX4]
 simp only [← hX3]
 refine (awake_any w1).mono ?_
 rintro e2 w2 ⟨rfl, hb2⟩
 have K3 := Lib.hid (k3.below hb2)
 have K4 := Lib.hid (k4.below hb2)
 have K5 := Lib.hid (k5.below hb2)
 have HB := Lib.hid (hb1.trans (hb2.mono hb1.size))
 clear hW hX3 hX4 hX5 hb1 hb2 k3 k4 k5
 obtain ⟨q0, q1, q2, _⟩ := blkc3 K3.out
 obtain ⟨u0, u1, u2, u3, u4, u5, _⟩ := blkc6 K4.out
 obtain ⟨p0, p1, p2, _⟩ := blkc3 K5.out
 have l3 := K3.out.lt
 have l4 := K4.out.lt
 have l5 := K5.out.lt
 go_wp2_with fail
 refine (HFW.out _).mono ?_
 rintro e3 w3 ⟨rfl, hb3⟩
 have K3 := Lib.hid (K3.out.below hb3)
 have K4 := Lib.hid (K4.out.below hb3)
 have K5 := Lib.hid (K5.out.below hb3)
 have HB := Lib.hid (HB.out.trans (hb3.mono HB.out.size))
 clear q0 q1 q2 u0 u1 u2 u3 u4 u5 p0 p1 p2 l3 l4 l5
 clear hb3 HFW
 by_cases hfew : nb ≤ 8 ∧ ng ≤ 32
 ·obtain ⟨h8, h32⟩ := hfew
  have HCP := Lib.hid (HCP0.out h8 h32)
  have HCI := Lib.hid (HCI0.out h8)
  have HOI := Lib.hid (HOI0.out h8)
  have HNI := Lib.hid (HNI0.out h8)
  have HSE := Lib.hid (HSE0.out h8)
  have e81 : (decide (nb ≤ 8) && decide (ng ≤ 32)) = true := by rw [decide_eq_true h8, decide_eq_true h32]; rfl
  rw [e81]
  clear e81 HCP0 HCI0 HOI0 HNI0 HSE0 h8 h32
  obtain ⟨q0, q1, q2, _⟩ := blkc3 K3.out
  obtain ⟨u0, u1, u2, u3, u4, u5, _⟩ := blkc6 K4.out
  obtain ⟨p0, p1, p2, _⟩ := blkc3 K5.out
  have l3 := K3.out.lt
  have l4 := K4.out.lt
  have l5 := K5.out.lt
  go_wp2_with fail
  go_cut [7, 8] from 21 to 31 (fun v7 v8 wx => ∃ (ac : Option Addr) (nc cc : Nat), v7 = .slice ac nc cc ∧ v8 = .int .i64 E ∧ Hid (PairsR wx ac nc CT) ∧ Hid (Below w3.heap.size w3 wx))
  case first =>
   have HN := Lib.hid (Below.refl w3.heap.size w3).drew
   refine wp_region_laterT (B := w3.heap.size) (.head 0 (.head 2 (.head 3 (.head 4 (.head 5 (.head 6 (.one 1 (.one 7 (.head 8 (.head 9 (.head 10 (.head 11 (.head 12 .done))))))))))))) (by kernel_rfl) (by kernel_rfl) ?_
   repeat (refine tree_head rfl ?_; (show wpQuiet _ _ _ _ (_ :: _) _; go_big_quiet_step (fail)); refine wpQuiet_nil ?_)
   refine tree_one rfl ?_
   go_wp2_with fail
   refine (HCP.out _ (HB.out.trans (HN.out.mono HB.out.size))).mono ?_
   rintro e1 wx1 ⟨a1, p1', a2, p2', rfl, hbx, hbr1, hgr1⟩
   have HBR := Lib.hid hbr1
   have HGR := Lib.hid hgr1
   clear hbr1 hgr1
   have hzx := hbx.size
   have HN := Lib.hid (HN.out.trans (hbx.mono HN.out.size))
   clear hbx
   go_wp2_with fail
   refine tailL_mk HN.out ?_
   repeat (refine tree_head rfl ?_; (show wpQuiet _ _ _ _ (_ :: _) _; go_big_quiet_step (fail)); refine wpQuiet_nil ?_)
   refine tree_one rfl ?_
   go_wp2_with fail
   refine (HCI.out a1 a2 p1' p2' _ HBR.out HGR.out).mono ?_
   rintro e1 wx2 ⟨ac, nc, cc, rfl, hbx, hcr⟩
   have HCR := Lib.hid hcr
   clear hcr
   have hzx := hbx.size
   have HN := Lib.hid (HN.out.trans (hbx.mono HN.out.size))
   have HBR := Lib.hid (HBR.out.below hbx)
   have HGR := Lib.hid (HGR.out.below hbx)
   clear hbx
   go_wp2_with fail
   refine tailL_mk HN.out ?_
   repeat (refine tree_head rfl ?_; (show wpQuiet _ _ _ _ (_ :: _) _; go_big_quiet_step (fail)); refine wpQuiet_nil ?_)
   refine tree_done ?_
   go_wp2_with fail
   go_meet
   case rel => exact ⟨ac, nc, cc, rfl, rfl, HCR, HN⟩
  case rest =>
   obtain ⟨w4, rfl⟩ : ∃ w', w' = wc := ⟨wc, rfl⟩
   obtain ⟨ac, nc, cc, rfl, rfl, HCR, HQ⟩ := hcut
   have hbq := HQ.out
   clear q0 q1 q2 u0 u1 u2 u3 u4 u5 p0 p1 p2 l3 l4 l5
   have K3 := Lib.hid (K3.out.below hbq)
   have K4 := Lib.hid (K4.out.below hbq)
   have K5 := Lib.hid (K5.out.below hbq)
   have HB := Lib.hid (HB.out.trans (hbq.mono HB.out.size))
   clear hbq HQ HCI
   obtain ⟨q0, q1, q2, _⟩ := blkc3 K3.out
   obtain ⟨u0, u1, u2, u3, u4, u5, _⟩ := blkc6 K4.out
   obtain ⟨p0, p1, p2, _⟩ := blkc3 K5.out
   have l3 := K3.out.lt
   have l4 := K4.out.lt
   have l5 := K5.out.lt
   go_wp2_with fail
   go_cut [9, 10] from 32 to 42 (fun v9 v10 wx => ∃ X9 : Nat, v9 = .pointer (some ⟨X9, 0, none⟩) ∧ v10 = .int .i64 E ∧ Hid (BlkR wx X9 (.cells #[.int .i64 V1, .int .i64 V2] 58)) ∧ Hid (Below w4.heap.size w4 wx))
   case first =>
    have HN := Lib.hid (Below.refl w4.heap.size w4).drew
    refine wp_region_laterT (B := w4.heap.size) (.head 0 (.head 2 (.head 3 (.head 4 (.head 5 (.head 6 (.two 1 (.two 7 (.head 8 (.head 9 (.head 10 (.one 11 (.one 12 (.head 13 .done)))))) 11 (.one 7 (.head 8 (.head 9 (.head 10 (.one 12 (.head 13 .done))))))) 11 (.one 1 (.one 7 (.head 8 (.head 9 (.head 10 (.one 12 (.head 13 .done)))))))))))))) (by kernel_rfl) (by kernel_rfl) ?_
    repeat (refine tree_head rfl ?_; (show wpQuiet _ _ _ _ (_ :: _) _; go_big_quiet_step (fail)); refine wpQuiet_nil ?_)
    refine tree_two rfl rfl ?_ ?_
    ·go_wp2_with fail
     refine (HCP.out _ (HB.out.trans (HN.out.mono HB.out.size))).mono ?_
     rintro e1 wx1 ⟨a1, p1', a2, p2', rfl, hbx, hbr1, hgr1⟩
     have HBR := Lib.hid hbr1
     have HGR := Lib.hid hgr1
     clear hbr1 hgr1
     have hzx := hbx.size
     have HN := Lib.hid (HN.out.trans (hbx.mono HN.out.size))
     clear hbx
     go_wp2_with fail
     refine tailL_mk HN.out ?_
     repeat (refine tree_head rfl ?_; (show wpQuiet _ _ _ _ (_ :: _) _; go_big_quiet_step (fail)); refine wpQuiet_nil ?_)
     refine tree_two rfl rfl ?_ ?_
     ·go_wp2_with fail
      refine (HOI.out a1 a2 p1' p2' _ HBR.out HGR.out).mono ?_
      rintro e1 wx2 ⟨rfl, hbx⟩
      have hzx := hbx.size
      have HN := Lib.hid (HN.out.trans (hbx.mono HN.out.size))
      have HBR := Lib.hid (HBR.out.below hbx)
      have HGR := Lib.hid (HGR.out.below hbx)
      clear hbx
      go_wp2_with fail
      refine tailL_mk HN.out ?_
      repeat (refine tree_head rfl ?_; (show wpQuiet _ _ _ _ (_ :: _) _; go_big_quiet_step (fail)); refine wpQuiet_nil ?_)
      refine tree_one rfl ?_
      go_wp2_with fail
      obtain ⟨X9, hX9⟩ : ∃ X, X = wx2.heap.size := ⟨_, rfl⟩
      have hNX : w4.heap.size ≤ X9 := by rw [hX9]; exact HN.out.size
      have hx9 : (wx2.alloc (Obj.cells #[.int .i64 0, .int .i64 0] 58)).heap[X9]? = some (.cells #[.int .i64 0, .int .i64 0] 58) := by rw [hX9]; exact heap_alloc_new _ _
      have l9 : X9 < (wx2.alloc (Obj.cells #[.int .i64 0, .int .i64 0] 58)).heap.size := by rw [hX9]; simp
      have hs9 : (wx2.alloc (Obj.cells #[.int .i64 0, .int .i64 0] 58)).heap.size = wx2.heap.size + 1 := by simp
      have hbx : Below wx2.heap.size wx2 (wx2.alloc (Obj.cells #[.int .i64 0, .int .i64 0] 58)) := by (repeat' first | (with_reducible first | exact bw1 | assumption | refine bw2 ?_ _ | refine bw3 ?_ ?_ _ | refine bw4 ?_ | refine bw5 ?_ ?_ _ | refine bw6 (by assumption) ?_ ?_ | exact And.left (by assumption)) | go_size)
      try simp only [← hX9]
      generalize (wx2.alloc (Obj.cells #[.int .i64 0, .int .i64 0] 58)) = wx3 at *
      have HX9 := Lib.hid (And.intro hX9 hs9)
      have HN := Lib.hid (HN.out.trans (hbx.mono HN.out.size))
      have HBR := Lib.hid (HBR.out.below hbx)
      have HGR := Lib.hid (HGR.out.below hbx)
      clear hbx hX9 hs9
      refine tailL_mk HN.out ?_
      repeat (refine tree_head rfl ?_; (show wpQuiet _ _ _ _ (_ :: _) _; go_big_quiet_step (fail)); refine wpQuiet_nil ?_)
      refine tree_one rfl ?_
      have c90 := cell_of_row _ _ 0 _ _ _ hx9
      have f90 := frozen_of_row _ _ 0 _ _ hx9
      have c91 := cell_of_row _ _ 1 _ _ _ hx9
      have f91 := frozen_of_row _ _ 1 _ _ hx9
      simp only [List.getElem?_toArray, List.getElem?_cons_zero, List.getElem?_cons_succ] at c90 c91
      go_wp2_with fail
      have HN := Lib.hid (show Below w4.heap.size w4 ((wx3.setCell ⟨X9, 0, none⟩ (.int .i64 V1)).setCell ⟨X9, 1, none⟩ (.int .i64 V2)) from Below.setCell (Below.setCell (HN.out) hNX _) hNX _)
      have hxo := hx9
      have hx9 : ((wx3.setCell ⟨X9, 0, none⟩ (.int .i64 V1)).setCell ⟨X9, 1, none⟩ (.int .i64 V2)).heap[X9]? = some (.cells #[.int .i64 V1, .int .i64 V2] 58) := blk_set (blk_set (hx9) 0 (.int .i64 V1)) 1 (.int .i64 V2)
      refine tailL_mk HN.out ?_
      repeat (refine tree_head rfl ?_; (show wpQuiet _ _ _ _ (_ :: _) _; go_big_quiet_step (fail)); refine wpQuiet_nil ?_)
      refine tree_done ?_
      go_wp2_with fail
      go_meet
      case rel => exact ⟨X9, rfl, rfl, Lib.hid hx9, HN⟩
     ·go_wp2_with fail
      obtain ⟨X9, hX9⟩ : ∃ X, X = wx1.heap.size := ⟨_, rfl⟩
      have hNX : w4.heap.size ≤ X9 := by rw [hX9]; exact HN.out.size
      have hx9 : (wx1.alloc (Obj.cells #[.int .i64 0, .int .i64 0] 58)).heap[X9]? = some (.cells #[.int .i64 0, .int .i64 0] 58) := by rw [hX9]; exact heap_alloc_new _ _
      have l9 : X9 < (wx1.alloc (Obj.cells #[.int .i64 0, .int .i64 0] 58)).heap.size := by rw [hX9]; simp
      have hs9 : (wx1.alloc (Obj.cells #[.int .i64 0, .int .i64 0] 58)).heap.size = wx1.heap.size + 1 := by simp
      have hbx : Below wx1.heap.size wx1 (wx1.alloc (Obj.cells #[.int .i64 0, .int .i64 0] 58)) := by (repeat' first | (with_reducible first | exact bw1 | assumption | refine bw2 ?_ _ | refine bw3 ?_ ?_ _ | refine bw4 ?_ | refine bw5 ?_ ?_ _ | refine bw6 (by assumption) ?_ ?_ | exact And.left (by assumption)) | go_size)
      try simp only [← hX9]
      generalize (wx1.alloc (Obj.cells #[.int .i64 0, .int .i64 0] 58)) = wx5 at *
      have HX9 := Lib.hid (And.intro hX9 hs9)
      have HN := Lib.hid (HN.out.trans (hbx.mono HN.out.size))
      have HBR := Lib.hid (HBR.out.below hbx)
      have HGR := Lib.hid (HGR.out.below hbx)
      clear hbx hX9 hs9
      refine tailL_mk HN.out ?_
      repeat (refine tree_head rfl ?_; (show wpQuiet _ _ _ _ (_ :: _) _; go_big_quiet_step (fail)); refine wpQuiet_nil ?_)
      refine tree_one rfl ?_
      go_wp2_with fail
      refine (HOI.out a1 a2 p1' p2' _ HBR.out HGR.out).mono ?_
      rintro e1 wx6 ⟨rfl, hbx⟩
      have hzx := hbx.size
      have HN := Lib.hid (HN.out.trans (hbx.mono HN.out.size))
      have HBR := Lib.hid (HBR.out.below hbx)
      have HGR := Lib.hid (HGR.out.below hbx)
      have hx9 := (hbx.block X9 l9).trans hx9
      have l9 := Nat.lt_of_lt_of_le l9 hbx.size
      clear hbx
      go_wp2_with fail
      refine tailL_mk HN.out ?_
      repeat (refine tree_head rfl ?_; (show wpQuiet _ _ _ _ (_ :: _) _; go_big_quiet_step (fail)); refine wpQuiet_nil ?_)
      refine tree_one rfl ?_
      have c90 := cell_of_row _ _ 0 _ _ _ hx9
      have f90 := frozen_of_row _ _ 0 _ _ hx9
      have c91 := cell_of_row _ _ 1 _ _ _ hx9
      have f91 := frozen_of_row _ _ 1 _ _ hx9
      simp only [List.getElem?_toArray, List.getElem?_cons_zero, List.getElem?_cons_succ] at c90 c91
      go_wp2_with fail
      have HN := Lib.hid (show Below w4.heap.size w4 ((wx6.setCell ⟨X9, 0, none⟩ (.int .i64 V1)).setCell ⟨X9, 1, none⟩ (.int .i64 V2)) from Below.setCell (Below.setCell (HN.out) hNX _) hNX _)
      have hxo := hx9
      have hx9 : ((wx6.setCell ⟨X9, 0, none⟩ (.int .i64 V1)).setCell ⟨X9, 1, none⟩ (.int .i64 V2)).heap[X9]? = some (.cells #[.int .i64 V1, .int .i64 V2] 58) := blk_set (blk_set (hx9) 0 (.int .i64 V1)) 1 (.int .i64 V2)
      refine tailL_mk HN.out ?_
      repeat (refine tree_head rfl ?_; (show wpQuiet _ _ _ _ (_ :: _) _; go_big_quiet_step (fail)); refine wpQuiet_nil ?_)
      refine tree_done ?_
      go_wp2_with fail
      go_meet
      case rel => exact ⟨X9, rfl, rfl, Lib.hid hx9, HN⟩
    ·go_wp2_with fail
     obtain ⟨X9, hX9⟩ : ∃ X, X = w4.heap.size := ⟨_, rfl⟩
     have hNX : w4.heap.size ≤ X9 := by rw [hX9]; exact HN.out.size
     have hx9 : (w4.alloc (Obj.cells #[.int .i64 0, .int .i64 0] 58)).drew.heap[X9]? = some (.cells #[.int .i64 0, .int .i64 0] 58) := by rw [hX9]; exact heap_alloc_new _ _
     have l9 : X9 < (w4.alloc (Obj.cells #[.int .i64 0, .int .i64 0] 58)).drew.heap.size := by rw [hX9]; simp
     have hs9 : (w4.alloc (Obj.cells #[.int .i64 0, .int .i64 0] 58)).drew.heap.size = w4.heap.size + 1 := by simp
     have hbx : Below w4.heap.size w4 (w4.alloc (Obj.cells #[.int .i64 0, .int .i64 0] 58)).drew := by (repeat' first | (with_reducible first | exact bw1 | assumption | refine bw2 ?_ _ | refine bw3 ?_ ?_ _ | refine bw4 ?_ | refine bw5 ?_ ?_ _ | refine bw6 (by assumption) ?_ ?_ | exact And.left (by assumption)) | go_size)
     try simp only [← hX9]
     generalize (w4.alloc (Obj.cells #[.int .i64 0, .int .i64 0] 58)).drew = wx8 at *
     have HX9 := Lib.hid (And.intro hX9 hs9)
     have HN := Lib.hid hbx
     clear hbx hX9 hs9
     refine tailL_mk HN.out ?_
     repeat (refine tree_head rfl ?_; (show wpQuiet _ _ _ _ (_ :: _) _; go_big_quiet_step (fail)); refine wpQuiet_nil ?_)
     refine tree_one rfl ?_
     go_wp2_with fail
     refine (HCP.out _ (HB.out.trans (HN.out.mono HB.out.size))).mono ?_
     rintro e1 wx9 ⟨a1, p1', a2, p2', rfl, hbx, hbr1, hgr1⟩
     have HBR := Lib.hid hbr1
     have HGR := Lib.hid hgr1
     clear hbr1 hgr1
     have hzx := hbx.size
     have HN := Lib.hid (HN.out.trans (hbx.mono HN.out.size))
     have hx9 := (hbx.block X9 l9).trans hx9
     have l9 := Nat.lt_of_lt_of_le l9 hbx.size
     clear hbx
     go_wp2_with fail
     refine tailL_mk HN.out ?_
     repeat (refine tree_head rfl ?_; (show wpQuiet _ _ _ _ (_ :: _) _; go_big_quiet_step (fail)); refine wpQuiet_nil ?_)
     refine tree_one rfl ?_
     go_wp2_with fail
     refine (HOI.out a1 a2 p1' p2' _ HBR.out HGR.out).mono ?_
     rintro e1 wx10 ⟨rfl, hbx⟩
     have hzx := hbx.size
     have HN := Lib.hid (HN.out.trans (hbx.mono HN.out.size))
     have HBR := Lib.hid (HBR.out.below hbx)
     have HGR := Lib.hid (HGR.out.below hbx)
     have hx9 := (hbx.block X9 l9).trans hx9
     have l9 := Nat.lt_of_lt_of_le l9 hbx.size
     clear hbx
     go_wp2_with fail
     refine tailL_mk HN.out ?_
     repeat (refine tree_head rfl ?_; (show wpQuiet _ _ _ _ (_ :: _) _; go_big_quiet_step (fail)); refine wpQuiet_nil ?_)
     refine tree_one rfl ?_
     have c90 := cell_of_row _ _ 0 _ _ _ hx9
     have f90 := frozen_of_row _ _ 0 _ _ hx9
     have c91 := cell_of_row _ _ 1 _ _ _ hx9
     have f91 := frozen_of_row _ _ 1 _ _ hx9
     simp only [List.getElem?_toArray, List.getElem?_cons_zero, List.getElem?_cons_succ] at c90 c91
     go_wp2_with fail
     have HN := Lib.hid (show Below w4.heap.size w4 ((wx10.setCell ⟨X9, 0, none⟩ (.int .i64 V1)).setCell ⟨X9, 1, none⟩ (.int .i64 V2)) from Below.setCell (Below.setCell (HN.out) hNX _) hNX _)
     have hxo := hx9
     have hx9 : ((wx10.setCell ⟨X9, 0, none⟩ (.int .i64 V1)).setCell ⟨X9, 1, none⟩ (.int .i64 V2)).heap[X9]? = some (.cells #[.int .i64 V1, .int .i64 V2] 58) := blk_set (blk_set (hx9) 0 (.int .i64 V1)) 1 (.int .i64 V2)
     refine tailL_mk HN.out ?_
     repeat (refine tree_head rfl ?_; (show wpQuiet _ _ _ _ (_ :: _) _; go_big_quiet_step (fail)); refine wpQuiet_nil ?_)
     refine tree_done ?_
     go_wp2_with fail
     go_meet
     case rel => exact ⟨X9, rfl, rfl, Lib.hid hx9, HN⟩
   case rest =>
    obtain ⟨w5, rfl⟩ : ∃ w', w' = wc := ⟨wc, rfl⟩
    obtain ⟨X9, rfl, rfl, K9, HQ⟩ := hcut
    have hbq := HQ.out
    clear q0 q1 q2 u0 u1 u2 u3 u4 u5 p0 p1 p2 l3 l4 l5
    have K3 := Lib.hid (K3.out.below hbq)
    have K4 := Lib.hid (K4.out.below hbq)
    have K5 := Lib.hid (K5.out.below hbq)
    have HB := Lib.hid (HB.out.trans (hbq.mono HB.out.size))
    have HCR := Lib.hid (PairsR.below HCR.out hbq)
    clear hbq HQ HOI
    obtain ⟨q0, q1, q2, _⟩ := blkc3 K3.out
    obtain ⟨u0, u1, u2, u3, u4, u5, _⟩ := blkc6 K4.out
    obtain ⟨p0, p1, p2, _⟩ := blkc3 K5.out
    have l3 := K3.out.lt
    have l4 := K4.out.lt
    have l5 := K5.out.lt
    go_wp2_with fail
    go_cut [11, 12] from 43 to 51 (fun v9 v10 wx => ∃ X11 : Nat, v9 = .pointer (some ⟨X11, 0, none⟩) ∧ v10 = .int .i64 E0 ∧ Hid (BlkR wx X11 (.cells #[.int .i64 N1, .int .i64 N2] 58)) ∧ Hid (Below w5.heap.size w5 wx))
    case first =>
     have HN := Lib.hid (Below.refl w5.heap.size w5).drew
     refine wp_region_laterT (B := w5.heap.size) (.head 0 (.head 2 (.head 3 (.head 4 (.two 1 (.two 5 (.head 6 (.head 7 (.head 8 (.one 9 (.one 10 (.head 11 .done)))))) 9 (.one 5 (.head 6 (.head 7 (.head 8 (.one 10 (.head 11 .done))))))) 9 (.one 1 (.one 5 (.head 6 (.head 7 (.head 8 (.one 10 (.head 11 .done)))))))))))) (by kernel_rfl) (by kernel_rfl) ?_
     repeat (refine tree_head rfl ?_; (show wpQuiet _ _ _ _ (_ :: _) _; go_big_quiet_step (fail)); refine wpQuiet_nil ?_)
     refine tree_two rfl rfl ?_ ?_
     ·go_wp2_with fail
      refine (HCP.out _ (HB.out.trans (HN.out.mono HB.out.size))).mono ?_
      rintro e1 wx1 ⟨a1, p1', a2, p2', rfl, hbx, hbr1, hgr1⟩
      have HBR := Lib.hid hbr1
      have HGR := Lib.hid hgr1
      clear hbr1 hgr1
      have hzx := hbx.size
      have HN := Lib.hid (HN.out.trans (hbx.mono HN.out.size))
      clear hbx
      go_wp2_with fail
      refine tailL_mk HN.out ?_
      repeat (refine tree_head rfl ?_; (show wpQuiet _ _ _ _ (_ :: _) _; go_big_quiet_step (fail)); refine wpQuiet_nil ?_)
      refine tree_two rfl rfl ?_ ?_
      ·go_wp2_with fail
       refine (HNI.out a1 a2 p1' p2' _ HBR.out HGR.out).mono ?_
       rintro e1 wx2 ⟨rfl, hbx⟩
       have hzx := hbx.size
       have HN := Lib.hid (HN.out.trans (hbx.mono HN.out.size))
       have HBR := Lib.hid (HBR.out.below hbx)
       have HGR := Lib.hid (HGR.out.below hbx)
       clear hbx
       go_wp2_with fail
       refine tailL_mk HN.out ?_
       repeat (refine tree_head rfl ?_; (show wpQuiet _ _ _ _ (_ :: _) _; go_big_quiet_step (fail)); refine wpQuiet_nil ?_)
       refine tree_one rfl ?_
       go_wp2_with fail
       obtain ⟨X9, hX9⟩ : ∃ X, X = wx2.heap.size := ⟨_, rfl⟩
       have hNX : w5.heap.size ≤ X9 := by rw [hX9]; exact HN.out.size
       have hx9 : (wx2.alloc (Obj.cells #[.int .i64 0, .int .i64 0] 58)).heap[X9]? = some (.cells #[.int .i64 0, .int .i64 0] 58) := by rw [hX9]; exact heap_alloc_new _ _
       have l9 : X9 < (wx2.alloc (Obj.cells #[.int .i64 0, .int .i64 0] 58)).heap.size := by rw [hX9]; simp
       have hs9 : (wx2.alloc (Obj.cells #[.int .i64 0, .int .i64 0] 58)).heap.size = wx2.heap.size + 1 := by simp
       have hbx : Below wx2.heap.size wx2 (wx2.alloc (Obj.cells #[.int .i64 0, .int .i64 0] 58)) := by (repeat' first | (with_reducible first | exact bw1 | assumption | refine bw2 ?_ _ | refine bw3 ?_ ?_ _ | refine bw4 ?_ | refine bw5 ?_ ?_ _ | refine bw6 (by assumption) ?_ ?_ | exact And.left (by assumption)) | go_size)
       try simp only [← hX9]
       generalize (wx2.alloc (Obj.cells #[.int .i64 0, .int .i64 0] 58)) = wx3 at *
       have HX9 := Lib.hid (And.intro hX9 hs9)
       have HN := Lib.hid (HN.out.trans (hbx.mono HN.out.size))
       have HBR := Lib.hid (HBR.out.below hbx)
       have HGR := Lib.hid (HGR.out.below hbx)
       clear hbx hX9 hs9
       refine tailL_mk HN.out ?_
       repeat (refine tree_head rfl ?_; (show wpQuiet _ _ _ _ (_ :: _) _; go_big_quiet_step (fail)); refine wpQuiet_nil ?_)
       refine tree_one rfl ?_
       have c90 := cell_of_row _ _ 0 _ _ _ hx9
       have f90 := frozen_of_row _ _ 0 _ _ hx9
       have c91 := cell_of_row _ _ 1 _ _ _ hx9
       have f91 := frozen_of_row _ _ 1 _ _ hx9
       simp only [List.getElem?_toArray, List.getElem?_cons_zero, List.getElem?_cons_succ] at c90 c91
       go_wp2_with fail
       have HN := Lib.hid (show Below w5.heap.size w5 ((wx3.setCell ⟨X9, 0, none⟩ (.int .i64 N1)).setCell ⟨X9, 1, none⟩ (.int .i64 N2)) from Below.setCell (Below.setCell (HN.out) hNX _) hNX _)
       have hxo := hx9
       have hx9 : ((wx3.setCell ⟨X9, 0, none⟩ (.int .i64 N1)).setCell ⟨X9, 1, none⟩ (.int .i64 N2)).heap[X9]? = some (.cells #[.int .i64 N1, .int .i64 N2] 58) := blk_set (blk_set (hx9) 0 (.int .i64 N1)) 1 (.int .i64 N2)
       refine tailL_mk HN.out ?_
       repeat (refine tree_head rfl ?_; (show wpQuiet _ _ _ _ (_ :: _) _; go_big_quiet_step (fail)); refine wpQuiet_nil ?_)
       refine tree_done ?_
       go_wp2_with fail
       go_meet
       case rel => exact ⟨X9, rfl, rfl, Lib.hid hx9, HN⟩
      ·go_wp2_with fail
       obtain ⟨X9, hX9⟩ : ∃ X, X = wx1.heap.size := ⟨_, rfl⟩
       have hNX : w5.heap.size ≤ X9 := by rw [hX9]; exact HN.out.size
       have hx9 : (wx1.alloc (Obj.cells #[.int .i64 0, .int .i64 0] 58)).heap[X9]? = some (.cells #[.int .i64 0, .int .i64 0] 58) := by rw [hX9]; exact heap_alloc_new _ _
       have l9 : X9 < (wx1.alloc (Obj.cells #[.int .i64 0, .int .i64 0] 58)).heap.size := by rw [hX9]; simp
       have hs9 : (wx1.alloc (Obj.cells #[.int .i64 0, .int .i64 0] 58)).heap.size = wx1.heap.size + 1 := by simp
       have hbx : Below wx1.heap.size wx1 (wx1.alloc (Obj.cells #[.int .i64 0, .int .i64 0] 58)) := by (repeat' first | (with_reducible first | exact bw1 | assumption | refine bw2 ?_ _ | refine bw3 ?_ ?_ _ | refine bw4 ?_ | refine bw5 ?_ ?_ _ | refine bw6 (by assumption) ?_ ?_ | exact And.left (by assumption)) | go_size)
       try simp only [← hX9]
       generalize (wx1.alloc (Obj.cells #[.int .i64 0, .int .i64 0] 58)) = wx5 at *
       have HX9 := Lib.hid (And.intro hX9 hs9)
       have HN := Lib.hid (HN.out.trans (hbx.mono HN.out.size))
       have HBR := Lib.hid (HBR.out.below hbx)
       have HGR := Lib.hid (HGR.out.below hbx)
       clear hbx hX9 hs9
       refine tailL_mk HN.out ?_
       repeat (refine tree_head rfl ?_; (show wpQuiet _ _ _ _ (_ :: _) _; go_big_quiet_step (fail)); refine wpQuiet_nil ?_)
       refine tree_one rfl ?_
       go_wp2_with fail
       refine (HNI.out a1 a2 p1' p2' _ HBR.out HGR.out).mono ?_
       rintro e1 wx6 ⟨rfl, hbx⟩
       have hzx := hbx.size
       have HN := Lib.hid (HN.out.trans (hbx.mono HN.out.size))
       have HBR := Lib.hid (HBR.out.below hbx)
       have HGR := Lib.hid (HGR.out.below hbx)
       have hx9 := (hbx.block X9 l9).trans hx9
       have l9 := Nat.lt_of_lt_of_le l9 hbx.size
       clear hbx
       go_wp2_with fail
       refine tailL_mk HN.out ?_
       repeat (refine tree_head rfl ?_; (show wpQuiet _ _ _ _ (_ :: _) _; go_big_quiet_step (fail)); refine wpQuiet_nil ?_)
       refine tree_one rfl ?_
       have c90 := cell_of_row _ _ 0 _ _ _ hx9
       have f90 := frozen_of_row _ _ 0 _ _ hx9
       have c91 := cell_of_row _ _ 1 _ _ _ hx9
       have f91 := frozen_of_row _ _ 1 _ _ hx9
       simp only [List.getElem?_toArray, List.getElem?_cons_zero, List.getElem?_cons_succ] at c90 c91
       go_wp2_with fail
       have HN := Lib.hid (show Below w5.heap.size w5 ((wx6.setCell ⟨X9, 0, none⟩ (.int .i64 N1)).setCell ⟨X9, 1, none⟩ (.int .i64 N2)) from Below.setCell (Below.setCell (HN.out) hNX _) hNX _)
       have hxo := hx9
       have hx9 : ((wx6.setCell ⟨X9, 0, none⟩ (.int .i64 N1)).setCell ⟨X9, 1, none⟩ (.int .i64 N2)).heap[X9]? = some (.cells #[.int .i64 N1, .int .i64 N2] 58) := blk_set (blk_set (hx9) 0 (.int .i64 N1)) 1 (.int .i64 N2)
       refine tailL_mk HN.out ?_
       repeat (refine tree_head rfl ?_; (show wpQuiet _ _ _ _ (_ :: _) _; go_big_quiet_step (fail)); refine wpQuiet_nil ?_)
       refine tree_done ?_
       go_wp2_with fail
       go_meet
       case rel => exact ⟨X9, rfl, rfl, Lib.hid hx9, HN⟩
     ·go_wp2_with fail
      obtain ⟨X9, hX9⟩ : ∃ X, X = w5.heap.size := ⟨_, rfl⟩
      have hNX : w5.heap.size ≤ X9 := by rw [hX9]; exact HN.out.size
      have hx9 : (w5.alloc (Obj.cells #[.int .i64 0, .int .i64 0] 58)).drew.heap[X9]? = some (.cells #[.int .i64 0, .int .i64 0] 58) := by rw [hX9]; exact heap_alloc_new _ _
      have l9 : X9 < (w5.alloc (Obj.cells #[.int .i64 0, .int .i64 0] 58)).drew.heap.size := by rw [hX9]; simp
      have hs9 : (w5.alloc (Obj.cells #[.int .i64 0, .int .i64 0] 58)).drew.heap.size = w5.heap.size + 1 := by simp
      have hbx : Below w5.heap.size w5 (w5.alloc (Obj.cells #[.int .i64 0, .int .i64 0] 58)).drew := by (repeat' first | (with_reducible first | exact bw1 | assumption | refine bw2 ?_ _ | refine bw3 ?_ ?_ _ | refine bw4 ?_ | refine bw5 ?_ ?_ _ | refine bw6 (by assumption) ?_ ?_ | exact And.left (by assumption)) | go_size)
      try simp only [← hX9]
      generalize (w5.alloc (Obj.cells #[.int .i64 0, .int .i64 0] 58)).drew = wx8 at *
      have HX9 := Lib.hid (And.intro hX9 hs9)
      have HN := Lib.hid hbx
      clear hbx hX9 hs9
      refine tailL_mk HN.out ?_
      repeat (refine tree_head rfl ?_; (show wpQuiet _ _ _ _ (_ :: _) _; go_big_quiet_step (fail)); refine wpQuiet_nil ?_)
      refine tree_one rfl ?_
      go_wp2_with fail
      refine (HCP.out _ (HB.out.trans (HN.out.mono HB.out.size))).mono ?_
      rintro e1 wx9 ⟨a1, p1', a2, p2', rfl, hbx, hbr1, hgr1⟩
      have HBR := Lib.hid hbr1
      have HGR := Lib.hid hgr1
      clear hbr1 hgr1
      have hzx := hbx.size
      have HN := Lib.hid (HN.out.trans (hbx.mono HN.out.size))
      have hx9 := (hbx.block X9 l9).trans hx9
      have l9 := Nat.lt_of_lt_of_le l9 hbx.size
      clear hbx
      go_wp2_with fail
      refine tailL_mk HN.out ?_
      repeat (refine tree_head rfl ?_; (show wpQuiet _ _ _ _ (_ :: _) _; go_big_quiet_step (fail)); refine wpQuiet_nil ?_)
      refine tree_one rfl ?_
      go_wp2_with fail
      refine (HNI.out a1 a2 p1' p2' _ HBR.out HGR.out).mono ?_
      rintro e1 wx10 ⟨rfl, hbx⟩
      have hzx := hbx.size
      have HN := Lib.hid (HN.out.trans (hbx.mono HN.out.size))
      have HBR := Lib.hid (HBR.out.below hbx)
      have HGR := Lib.hid (HGR.out.below hbx)
      have hx9 := (hbx.block X9 l9).trans hx9
      have l9 := Nat.lt_of_lt_of_le l9 hbx.size
      clear hbx
      go_wp2_with fail
      refine tailL_mk HN.out ?_
      repeat (refine tree_head rfl ?_; (show wpQuiet _ _ _ _ (_ :: _) _; go_big_quiet_step (fail)); refine wpQuiet_nil ?_)
      refine tree_one rfl ?_
      have c90 := cell_of_row _ _ 0 _ _ _ hx9
      have f90 := frozen_of_row _ _ 0 _ _ hx9
      have c91 := cell_of_row _ _ 1 _ _ _ hx9
      have f91 := frozen_of_row _ _ 1 _ _ hx9
      simp only [List.getElem?_toArray, List.getElem?_cons_zero, List.getElem?_cons_succ] at c90 c91
      go_wp2_with fail
      have HN := Lib.hid (show Below w5.heap.size w5 ((wx10.setCell ⟨X9, 0, none⟩ (.int .i64 N1)).setCell ⟨X9, 1, none⟩ (.int .i64 N2)) from Below.setCell (Below.setCell (HN.out) hNX _) hNX _)
      have hxo := hx9
      have hx9 : ((wx10.setCell ⟨X9, 0, none⟩ (.int .i64 N1)).setCell ⟨X9, 1, none⟩ (.int .i64 N2)).heap[X9]? = some (.cells #[.int .i64 N1, .int .i64 N2] 58) := blk_set (blk_set (hx9) 0 (.int .i64 N1)) 1 (.int .i64 N2)
      refine tailL_mk HN.out ?_
      repeat (refine tree_head rfl ?_; (show wpQuiet _ _ _ _ (_ :: _) _; go_big_quiet_step (fail)); refine wpQuiet_nil ?_)
      refine tree_done ?_
      go_wp2_with fail
      go_meet
      case rel => exact ⟨X9, rfl, rfl, Lib.hid hx9, HN⟩
    case rest =>
     obtain ⟨w6, rfl⟩ : ∃ w', w' = wc := ⟨wc, rfl⟩
     obtain ⟨X11, rfl, rfl, K11, HQ⟩ := hcut
     have hbq := HQ.out
     clear q0 q1 q2 u0 u1 u2 u3 u4 u5 p0 p1 p2 l3 l4 l5
     have K3 := Lib.hid (K3.out.below hbq)
     have K4 := Lib.hid (K4.out.below hbq)
     have K5 := Lib.hid (K5.out.below hbq)
     have HB := Lib.hid (HB.out.trans (hbq.mono HB.out.size))
     have HCR := Lib.hid (PairsR.below HCR.out hbq)
     have K9 := Lib.hid (K9.out.below hbq)
     clear hbq HQ HNI HCP
     obtain ⟨q0, q1, q2, _⟩ := blkc3 K3.out
     obtain ⟨u0, u1, u2, u3, u4, u5, _⟩ := blkc6 K4.out
     obtain ⟨p0, p1, p2, _⟩ := blkc3 K5.out
     have l3 := K3.out.lt
     have l4 := K4.out.lt
     have l5 := K5.out.lt
     go_wp2_with fail
     obtain ⟨w7, hW⟩ : ∃ w7, w7 = w6.alloc (Obj.cells #[.int .i64 0, .int .i64 0] 58) := ⟨_, rfl⟩
     rw [← hW]
     have hb7 : Below w6.heap.size w6 w7 := by rw [hW]; (repeat' first | (with_reducible first | exact bw1 | assumption | refine bw2 ?_ _ | refine bw3 ?_ ?_ _ | refine bw4 ?_ | refine bw5 ?_ ?_ _ | refine bw6 (by assumption) ?_ ?_ | exact And.left (by assumption)) | go_size)
     have k13 : BlkR w7 w6.heap.size (.cells #[.int .i64 0, .int .i64 0] 58) := by show w7.heap[w6.heap.size]? = _; rw [hW]; exact heap_alloc_new _ _
     obtain ⟨X13, hX13⟩ : ∃ X, X = w6.heap.size := ⟨_, rfl⟩
     rw [← hX13] at k13
     simp only [← hX13]
     clear hW hX13
     have K13 := Lib.hid k13
     clear q0 q1 q2 u0 u1 u2 u3 u4 u5 p0 p1 p2 l3 l4 l5
     have K3 := Lib.hid (K3.out.below hb7)
     have K4 := Lib.hid (K4.out.below hb7)
     have K5 := Lib.hid (K5.out.below hb7)
     have HB := Lib.hid (HB.out.trans (hb7.mono HB.out.size))
     have HCR := Lib.hid (PairsR.below HCR.out hb7)
     have K9 := Lib.hid (K9.out.below hb7)
     have K11 := Lib.hid (K11.out.below hb7)
     clear hb7 k13
     have x9 : (LE != LE) = false := by simp
     obtain ⟨q0, q1, q2, _⟩ := blkc3 K3.out
     obtain ⟨u0, u1, u2, u3, u4, u5, _⟩ := blkc6 K4.out
     obtain ⟨p0, p1, p2, _⟩ := blkc3 K5.out
     have l3 := K3.out.lt
     have l4 := K4.out.lt
     have l5 := K5.out.lt
     refine later_all (by kernel_rfl) (by kernel_rfl) ?_; repeat go_big_quiet_step(first | with_reducible exact calls_later (HCL.out _) | with_reducible exact calls_later (HRL.out _))
     refine wpQuiet_nil ?_; intro w8 hb8
     clear q0 q1 q2 u0 u1 u2 u3 u4 u5 p0 p1 p2 l3 l4 l5
     have K3 := Lib.hid (K3.out.below hb8)
     have K4 := Lib.hid (K4.out.below hb8)
     have K5 := Lib.hid (K5.out.below hb8)
     have HB := Lib.hid (HB.out.trans (hb8.mono HB.out.size))
     have HCR := Lib.hid (PairsR.below HCR.out hb8)
     have K9 := Lib.hid (K9.out.below hb8)
     have K11 := Lib.hid (K11.out.below hb8)
     have K13 := Lib.hid (K13.out.below hb8)
     clear hb8
     obtain ⟨q0, q1, q2, _⟩ := blkc3 K3.out
     obtain ⟨u0, u1, u2, u3, u4, u5, _⟩ := blkc6 K4.out
     obtain ⟨p0, p1, p2, _⟩ := blkc3 K5.out
     have l3 := K3.out.lt
     have l4 := K4.out.lt
     have l5 := K5.out.lt
     clear HCL HRL
     go_wp2_with fail
     refine (HBE.out _ HB.out).mono ?_
     rintro ex w9 ⟨rfl, hb9⟩
     clear q0 q1 q2 u0 u1 u2 u3 u4 u5 p0 p1 p2 l3 l4 l5
     have K3 := Lib.hid (K3.out.below hb9)
     have K4 := Lib.hid (K4.out.below hb9)
     have K5 := Lib.hid (K5.out.below hb9)
     have HB := Lib.hid (HB.out.trans (hb9.mono HB.out.size))
     have HCR := Lib.hid (PairsR.below HCR.out hb9)
     have K9 := Lib.hid (K9.out.below hb9)
     have K11 := Lib.hid (K11.out.below hb9)
     have K13 := Lib.hid (K13.out.below hb9)
     clear hb9
     obtain ⟨q0, q1, q2, _⟩ := blkc3 K3.out
     obtain ⟨u0, u1, u2, u3, u4, u5, _⟩ := blkc6 K4.out
     obtain ⟨p0, p1, p2, _⟩ := blkc3 K5.out
     have l3 := K3.out.lt
     have l4 := K4.out.lt
     have l5 := K5.out.lt
     clear HBE x9
     by_cases hO : OE = 0
     ·subst hO
      go_wp2_with fail
      refine (HSE.out _).mono ?_
      rintro ex w10 ⟨rfl, hb10⟩
      clear q0 q1 q2 u0 u1 u2 u3 u4 u5 p0 p1 p2 l3 l4 l5
      have K3 := Lib.hid (K3.out.below hb10)
      have K4 := Lib.hid (K4.out.below hb10)
      have K5 := Lib.hid (K5.out.below hb10)
      have HB := Lib.hid (HB.out.trans (hb10.mono HB.out.size))
      have HCR := Lib.hid (PairsR.below HCR.out hb10)
      have K9 := Lib.hid (K9.out.below hb10)
      have K11 := Lib.hid (K11.out.below hb10)
      have K13 := Lib.hid (K13.out.below hb10)
      clear hb10
      obtain ⟨q0, q1, q2, _⟩ := blkc3 K3.out
      obtain ⟨u0, u1, u2, u3, u4, u5, _⟩ := blkc6 K4.out
      obtain ⟨p0, p1, p2, _⟩ := blkc3 K5.out
      have l3 := K3.out.lt
      have l4 := K4.out.lt
      have l5 := K5.out.lt
      clear HSE
      by_cases hS : SE = 0
      ·subst hS
       obtain ⟨n, rfl, hn, hm, hl, hE0, hEl, hE, hcn, hco⟩ := HL.out.ok HOE.out.symm HSQ.out.symm
       rw [HLN.out] at hn
       have HCE2 := Lib.hid (HCE.out hm n hn)
       have HBAD := Lib.hid HL.out.bad
       have HBAD0 := Lib.hid HL.out.bad0
       have HRN2 := Lib.hid (fun (h : curE m n = 0) => HRN.out n (hcn h).1)
       have HNN := Lib.hid (fun (h : curE m n = 0) => (hcn h).2)
       rw [← HLQ.out] at hEl hE hco
       have HRO2 := Lib.hid (fun (h : curE m n = 0) (h2 : OL = 0) => HRO.out n (hco h h2).1)
       have HRC2 := Lib.hid (fun (h : curE m n = 0) (h2 : OL = 0) => HRC.out n (hco h h2).1)
       have HCC := Lib.hid (fun (h : curE m n = 0) (h2 : OL = 0) => (hco h h2).2)
       have HE0 := Lib.hid hE0
       have HEL := Lib.hid hEl
       have HEE := Lib.hid hE
       generalize curE m n = CE at *
       clear HL HCE HRN HRO HRC hn hm hl hE0 hEl hE hcn hco
       go_wp2_with fail
       refine (HCE2.out _ HB.out).mono ?_
       rintro ex w11 ⟨rfl, hb11⟩
       clear q0 q1 q2 u0 u1 u2 u3 u4 u5 p0 p1 p2 l3 l4 l5
       have K3 := Lib.hid (K3.out.below hb11)
       have K4 := Lib.hid (K4.out.below hb11)
       have K5 := Lib.hid (K5.out.below hb11)
       have HB := Lib.hid (HB.out.trans (hb11.mono HB.out.size))
       have HCR := Lib.hid (PairsR.below HCR.out hb11)
       have K9 := Lib.hid (K9.out.below hb11)
       have K11 := Lib.hid (K11.out.below hb11)
       have K13 := Lib.hid (K13.out.below hb11)
       clear hb11
       obtain ⟨q0, q1, q2, _⟩ := blkc3 K3.out
       obtain ⟨u0, u1, u2, u3, u4, u5, _⟩ := blkc6 K4.out
       obtain ⟨p0, p1, p2, _⟩ := blkc3 K5.out
       have l3 := K3.out.lt
       have l4 := K4.out.lt
       have l5 := K5.out.lt
       clear HCE2
       obtain rfl : E0 = CE := HE0.out
       have x9 : (E0 != E0) = false := by simp
       by_cases hc : E0 = 0
       ·subst hc
        have hnn := HNN.out (by first | rfl | trivial)
        have HRN3 := Lib.hid (HRN2.out (by first | rfl | trivial))
        rw [← hnn] at HRN3
        have HRX := Lib.hid (fun (W : World) (hbw : Below w11.heap.size w11 W) => HRN3.out W (HB.out.trans (hbw.mono HB.out.size)))
        simp only at HRX
        clear hnn HRN2 HRN3 HBAD0 HNN
        obtain ⟨x0', x1', _⟩ := blkc2 K9.out
        obtain ⟨y0', y1', _⟩ := blkc2 K11.out
        obtain ⟨z0', z1', _⟩ := blkc2 K13.out
        have l9' := K9.out.lt
        have l11' := K11.out.lt
        have l13' := K13.out.lt
        go_wp2_with fail
        refine later_all (by kernel_rfl) (by kernel_rfl) ?_; repeat go_big_quiet_step(with_reducible exact calls_later (HRX.out _ (Later.below _)))
        refine wpQuiet_nil ?_; intro w12 hb12
        clear q0 q1 q2 u0 u1 u2 u3 u4 u5 p0 p1 p2 l3 l4 l5
        have K3 := Lib.hid (K3.out.below hb12)
        have K4 := Lib.hid (K4.out.below hb12)
        have K5 := Lib.hid (K5.out.below hb12)
        have HB := Lib.hid (HB.out.trans (hb12.mono HB.out.size))
        have HCR := Lib.hid (PairsR.below HCR.out hb12)
        have K9 := Lib.hid (K9.out.below hb12)
        have K11 := Lib.hid (K11.out.below hb12)
        have K13 := Lib.hid (K13.out.below hb12)
        clear hb12
        obtain ⟨q0, q1, q2, _⟩ := blkc3 K3.out
        obtain ⟨u0, u1, u2, u3, u4, u5, _⟩ := blkc6 K4.out
        obtain ⟨p0, p1, p2, _⟩ := blkc3 K5.out
        have l3 := K3.out.lt
        have l4 := K4.out.lt
        have l5 := K5.out.lt
        clear x0' x1' y0' y1' z0' z1' l9' l11' l13' HRX
        go_wp2_with fail
        refine (HLE.out _).mono ?_
        rintro ex w13 ⟨rfl, rfl⟩
        by_cases hO : OL = 0
        ·subst hO
         obtain rfl : E = 0 := HEE.out (by first | rfl | trivial)
         obtain ⟨hct, hv⟩ := HCC.out (by first | rfl | trivial) (by first | rfl | trivial)
         have HRO3 := Lib.hid (HRO2.out (by first | rfl | trivial) (by first | rfl | trivial))
         have HRC3 := Lib.hid (HRC2.out (by first | rfl | trivial) (by first | rfl | trivial))
         rw [← hv] at HRO3
         rw [← hct] at HRC3
         have HROX := Lib.hid (fun (W : World) (hbw : Below w12.heap.size w12 W) => HRO3.out W (HB.out.trans (hbw.mono HB.out.size)))
         have HRCX := Lib.hid (fun (W : World) (hbw : Below w12.heap.size w12 W) => HRC3.out W (HB.out.trans (hbw.mono HB.out.size)))
         simp only at HROX
         clear hct hv HRO2 HRC2 HRO3 HRC3 HCC HBAD HEL HEE
         obtain ⟨x0', x1', _⟩ := blkc2 K9.out
         obtain ⟨y0', y1', _⟩ := blkc2 K11.out
         obtain ⟨z0', z1', _⟩ := blkc2 K13.out
         have l9' := K9.out.lt
         have l11' := K11.out.lt
         have l13' := K13.out.lt
         go_wp2_with fail
         go_upto_region 24 with fail
         have HN := Lib.hid (Below.refl w12.heap.size w12).drew
         refine wp_region_laterT (B := w12.heap.size) (.head 0 (.head 1 (.head 2 (.head 3 (.head 4 (.head 5 (.head 6 (.head 7 (.head 8 (.head 9 (.one 10 (.one 11 (.head 12 (.head 13 (.head 14 (.head 15 (.head 16 (.head 17 (.head 18 (.head 19 (.head 20 (.head 21 (.head 22 (.head 23 (.head 24 (.one 25 (.head 26 (.head 27 (.head 28 .done))))))))))))))))))))))))))))) (by kernel_rfl) (by kernel_rfl) ?_
         repeat (refine tree_head rfl ?_; (show wpQuiet _ _ _ _ (_ :: _) _; go_big_quiet_step (fail)); refine wpQuiet_nil ?_)
         have HCR := Lib.hid (HCR.out.below (Below.refl _ _).drew)
         refine tree_one rfl ?_
         go_wp2_with fail
         refine (HRCX.out _ HN.out).mono ?_
         rintro e11 wx1 ⟨a9, c9, rfl, hbx, hr9⟩
         have HR2 := Lib.hid hr9
         clear hr9
         have hzx := hbx.size
         have HN := Lib.hid (HN.out.trans (hbx.mono HN.out.size))
         have HCR := Lib.hid (HCR.out.below hbx)
         clear hbx
         go_wp2_with fail
         refine tailL_mk HN.out ?_
         repeat (refine tree_head rfl ?_; (show wpQuiet _ _ _ _ (_ :: _) _; go_big_quiet_step (fail)); refine wpQuiet_nil ?_)
         refine tree_one rfl ?_
         go_wp2_with fail
         refine (fracs_any CT CT ac a9 nc cc nb c9 _ HCR.out HR2.out).mono ?_
         rintro e11 wx2 ⟨rfl, m9, hm9⟩
         have hbx : Below wx1.heap.size wx1 wx2 := by rw [hm9]; exact (Below.refl _ _).drewN m9
         have hdd : decide (CT = CT) = true := by simp
         rw [hdd]
         clear hm9 hdd
         have hzx := hbx.size
         have HN := Lib.hid (HN.out.trans (hbx.mono HN.out.size))
         have HCR := Lib.hid (HCR.out.below hbx)
         have HR2 := Lib.hid (HR2.out.below hbx)
         clear hbx
         go_wp2_with fail
         refine tailL_mk HN.out ?_
         repeat (refine tree_head rfl ?_; (show wpQuiet _ _ _ _ (_ :: _) _; go_big_quiet_step (fail)); refine wpQuiet_nil ?_)
         refine tree_one rfl ?_
         go_wp2_with fail
         refine (HROX.out _ HN.out).mono ?_
         rintro e11 wx3 ⟨rfl, hbx⟩
         have hzx := hbx.size
         have HN := Lib.hid (HN.out.trans (hbx.mono HN.out.size))
         have HCR := Lib.hid (HCR.out.below hbx)
         have HR2 := Lib.hid (HR2.out.below hbx)
         clear hbx
         go_wp2_with fail
         refine tailL_mk HN.out ?_
         repeat (refine tree_head rfl ?_; (show wpQuiet _ _ _ _ (_ :: _) _; go_big_quiet_step (fail)); refine wpQuiet_nil ?_)
         refine tree_done ?_
         go_wp2_with fail
         go_ret
         exact ⟨ret_bool (by simp), HB.out.trans (HN.out.mono HB.out.size)⟩
        ·have hE := HEL.out hO
         subst hE
         obtain ⟨hct, hv⟩ := HBAD.out hO
         obtain ⟨rfl, rfl⟩ : V1 = 0 ∧ V2 = 0 := ⟨congrArg Prod.fst hv, congrArg Prod.snd hv⟩
         obtain rfl : nc = 0 := by
          have h := HCR.out
          rw [hct] at h
          have := h.1
          simp [pcells] at this
          omega
         obtain ⟨x0', x1', _⟩ := blkc2 K9.out
         obtain ⟨y0', y1', _⟩ := blkc2 K11.out
         obtain ⟨z0', z1', _⟩ := blkc2 K13.out
         have l9' := K9.out.lt
         have l11' := K11.out.lt
         have l13' := K13.out.lt
         have e2 := bne_iff_ne.2 hO
         clear hct hv HBAD HEL HEE hO
         go_wp2
         go_ret
         exact ⟨ret_bool (by simp), HB.out⟩
       ·obtain ⟨rfl, rfl⟩ : N1 = 0 ∧ N2 = 0 := by have h := HBAD0.out hc; exact ⟨congrArg Prod.fst h, congrArg Prod.snd h⟩
        have e1 := bne_iff_ne.2 hc
        have e0 : (E0 == 0) = false := by simpa using hc
        have HC := Lib.hid hc
        clear HRN2 HRO2 HRC2 HCC HNN HBAD0 hc
        obtain ⟨x0', x1', _⟩ := blkc2 K9.out
        obtain ⟨y0', y1', _⟩ := blkc2 K11.out
        obtain ⟨z0', z1', _⟩ := blkc2 K13.out
        have l9' := K9.out.lt
        have l11' := K11.out.lt
        have l13' := K13.out.lt
        go_wp2_with fail
        refine later_all (by kernel_rfl) (by kernel_rfl) ?_; repeat go_big_quiet_step(fail)
        refine wpQuiet_nil ?_; intro w12 hb12
        clear q0 q1 q2 u0 u1 u2 u3 u4 u5 p0 p1 p2 l3 l4 l5
        have K3 := Lib.hid (K3.out.below hb12)
        have K4 := Lib.hid (K4.out.below hb12)
        have K5 := Lib.hid (K5.out.below hb12)
        have HB := Lib.hid (HB.out.trans (hb12.mono HB.out.size))
        have HCR := Lib.hid (PairsR.below HCR.out hb12)
        have K9 := Lib.hid (K9.out.below hb12)
        have K11 := Lib.hid (K11.out.below hb12)
        have K13 := Lib.hid (K13.out.below hb12)
        clear hb12
        obtain ⟨q0, q1, q2, _⟩ := blkc3 K3.out
        obtain ⟨u0, u1, u2, u3, u4, u5, _⟩ := blkc6 K4.out
        obtain ⟨p0, p1, p2, _⟩ := blkc3 K5.out
        have l3 := K3.out.lt
        have l4 := K4.out.lt
        have l5 := K5.out.lt
        clear x0' x1' y0' y1' z0' z1' l9' l11' l13'
        go_wp2_with fail
        refine (HLE.out _).mono ?_
        rintro ex w13 ⟨rfl, rfl⟩
        by_cases hO : OL = 0
        ·subst hO
         have hE := HEE.out (by first | rfl | trivial)
         subst hE
         obtain ⟨hct, hv⟩ := HBAD.out HC.out
         have hO := HC.out
         clear HC
         obtain ⟨rfl, rfl⟩ : V1 = 0 ∧ V2 = 0 := ⟨congrArg Prod.fst hv, congrArg Prod.snd hv⟩
         obtain rfl : nc = 0 := by
          have h := HCR.out
          rw [hct] at h
          have := h.1
          simp [pcells] at this
          omega
         obtain ⟨x0', x1', _⟩ := blkc2 K9.out
         obtain ⟨y0', y1', _⟩ := blkc2 K11.out
         obtain ⟨z0', z1', _⟩ := blkc2 K13.out
         have l9' := K9.out.lt
         have l11' := K11.out.lt
         have l13' := K13.out.lt
         have e2 := bne_iff_ne.2 hO
         clear hct hv HBAD HEL HEE hO
         go_wp2
         go_ret
         exact ⟨ret_bool (by simp), HB.out⟩
        ·have hE := HEL.out hO
         subst hE
         obtain ⟨hct, hv⟩ := HBAD.out hO
         obtain ⟨rfl, rfl⟩ : V1 = 0 ∧ V2 = 0 := ⟨congrArg Prod.fst hv, congrArg Prod.snd hv⟩
         obtain rfl : nc = 0 := by
          have h := HCR.out
          rw [hct] at h
          have := h.1
          simp [pcells] at this
          omega
         obtain ⟨x0', x1', _⟩ := blkc2 K9.out
         obtain ⟨y0', y1', _⟩ := blkc2 K11.out
         obtain ⟨z0', z1', _⟩ := blkc2 K13.out
         have l9' := K9.out.lt
         have l11' := K11.out.lt
         have l13' := K13.out.lt
         have e2 := bne_iff_ne.2 hO
         clear hct hv HBAD HEL HEE hO
         go_wp2
         go_ret
         exact ⟨ret_bool (by simp), HB.out⟩
      ·obtain ⟨hE, hE0⟩ := HL.out.b HOE.out.symm (by rw [← HSQ.out]; exact hS)
       rw [← HSQ.out] at hE hE0
       obtain rfl : E = SE := hE
       obtain rfl : E0 = E := hE0
       obtain ⟨hct, hv⟩ := HL.out.bad hS
       have hn0 := HL.out.bad0 hS
       obtain ⟨rfl, rfl⟩ : V1 = 0 ∧ V2 = 0 := ⟨congrArg Prod.fst hv, congrArg Prod.snd hv⟩
       obtain ⟨rfl, rfl⟩ : N1 = 0 ∧ N2 = 0 := ⟨congrArg Prod.fst hn0, congrArg Prod.snd hn0⟩
       obtain rfl : nc = 0 := by
        have h := HCR.out
        rw [hct] at h
        have := h.1
        simp [pcells] at this
        omega
       obtain ⟨x0', x1', _⟩ := blkc2 K9.out
       obtain ⟨y0', y1', _⟩ := blkc2 K11.out
       obtain ⟨z0', z1', _⟩ := blkc2 K13.out
       have l9' := K9.out.lt
       have l11' := K11.out.lt
       have l13' := K13.out.lt
       have e1 := bne_iff_ne.2 hS
       clear hct hv hn0 HL hS
       go_wp2
       go_ret
       exact ⟨ret_bool (by simp), HB.out⟩
     ·obtain ⟨hE, hE0⟩ := HL.out.a (by rw [← HOE.out]; exact hO)
      rw [← HOE.out] at hE hE0
      obtain rfl : E = OE := hE
      obtain rfl : E0 = E := hE0
      obtain ⟨hct, hv⟩ := HL.out.bad hO
      have hn0 := HL.out.bad0 hO
      obtain ⟨rfl, rfl⟩ : V1 = 0 ∧ V2 = 0 := ⟨congrArg Prod.fst hv, congrArg Prod.snd hv⟩
      obtain ⟨rfl, rfl⟩ : N1 = 0 ∧ N2 = 0 := ⟨congrArg Prod.fst hn0, congrArg Prod.snd hn0⟩
      obtain rfl : nc = 0 := by
       have h := HCR.out
       rw [hct] at h
       have := h.1
       simp [pcells] at this
       omega
      obtain ⟨x0', x1', _⟩ := blkc2 K9.out
      obtain ⟨y0', y1', _⟩ := blkc2 K11.out
      obtain ⟨z0', z1', _⟩ := blkc2 K13.out
      have l9' := K9.out.lt
      have l11' := K11.out.lt
      have l13' := K13.out.lt
      have e1 := bne_iff_ne.2 hO
      clear hct hv hn0 HL hO
      go_wp2
      go_ret
      exact ⟨ret_bool (by simp), HB.out⟩
 ·have e81 : (decide (nb ≤ 8) && decide (ng ≤ 32)) = false := by
    rw [Bool.eq_false_iff]
    intro h
    rw [Bool.and_eq_true, decide_eq_true_eq, decide_eq_true_eq] at h
    exact hfew h
  rw [e81]
  clear e81 hfew
  go_wp2
  go_ret
  exact ⟨rfl, HB.out⟩
end Go.Proofs.YtidboecjllaofaaGreat
