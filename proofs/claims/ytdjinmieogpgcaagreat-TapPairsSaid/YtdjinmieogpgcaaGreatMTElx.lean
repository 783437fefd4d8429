import Derived.Laws.StructEq
import Derived.Test.YtdjinmieogpgcaaGreatMTRsQ
/- The exported functions of currents, failures and invariants: the program. -/
namespace Go.Proofs.YtdjinmieogpgcaaGreat
open Go.RowKit Go.Shelf
set_option linter.unusedVariables false
set_option linter.unusedSimpArgs false
set_option maxHeartbeats 1000000 in
set_option maxRecDepth 100000 in
theorem currentsIn_any (m : Mac) (l : Lim) (s load : Int) (ab ag : Option Addr) (nb cb ng cg : Nat) (w : World) (hb : BrR w ab nb m.br) (hg : GrR w ag ng m.gs) (h8 : nb ≤ 8) :
    Calls Tryz.prog 31 #[.agg #[.slice ab nb cb, .int .i64 m.st, .slice ag ng cg], .agg #[.int .i64 l.volt, .int .i64 l.lo, .int .i64 l.hi, .int .i64 l.circ, .int .i64 l.brk, .int .i64 l.ret], .int .i64 s, .int .i64 load] w
     fun e' w' => ∃ a' n' c', e' = .returned (.tuple #[.slice a' n' c', .int .i64 (eleE m l s load)]) ∧ Below w.heap.size w w' ∧ PairsR w' a' n' (if eleE m l s load = 0 then curT m l s.toNat load else []) := by
 have HE := Lib.hid (fun (W : World) (hbw : Below w.heap.size w W) => electric_any m l s load ab ag nb cb ng cg W (hb.below hbw) (hg.below hbw) h8)
 have HCU := Lib.hid (fun (h : eleE m l s load = 0) => show ∃ n : Nat, s = (n : Int) ∧ ∀ (W : World), Below w.heap.size w W → Calls Tryz.prog 68 #[.agg #[.slice ab nb cb, .int .i64 m.st, .slice ag ng cg, .int .i64 l.volt, .int .i64 l.lo, .int .i64 l.hi, .int .i64 l.circ, .int .i64 l.brk, .int .i64 l.ret], .int .i64 (n : Int), .int .i64 load] W (fun e' w' => ∃ g, e' = .returned (.slice (some ⟨g, 0, none⟩) nb nb) ∧ W.heap.size ≤ g ∧ w'.heap[g]? = some (.cells (pcells (curT m l n load)).toArray 85) ∧ Below W.heap.size W w') from by
  unfold eleE at h
  split at h
  ·rename_i h1; exact absurd h h1
  ·rename_i h1
   have h1 := Decidable.not_not.1 h1
   obtain ⟨hm, hl, ⟨n, rfl, hn⟩, hd⟩ := eleZ_zero h1
   rw [Int.toNat_natCast] at h
   have hv := ElV.of h1 h
   exact ⟨n, rfl, fun W hbw => currents_any m l n load ab ag nb cb ng cg W hm (hb.below hbw) hv.hl hv.hd (by rw [← hb.len]; exact hn) hv.h0⟩)
 have HLN := Lib.hid (fun (n : Nat) => show (curT m l n load).length = nb by rw [curT_len, hb.len])
 obtain ⟨L, hL⟩ : ∃ L, L = if eleE m l s load = 0 then curT m l s.toNat load else [] := ⟨_, rfl⟩
 have HL := Lib.hid hL
 rw [← hL]
 clear hL
 generalize eleE m l s load = E at *
 have hcu : ∀ n, curT m l n load = curT m l n load := fun _ => rfl
 generalize hCT : (fun n => curT m l n load) = CT at *
 have HCT := Lib.hid (fun n => (congrFun hCT n : curT m l n load = CT n))
 obtain ⟨vo, lo, hi, ci, br, re⟩ := l
 obtain ⟨st, hst⟩ : ∃ x, x = m.st := ⟨_, rfl⟩
 rw [← hst] at HE HCU ⊢
 simp only at HE HCU ⊢
 clear hb hg hst hcu hCT
 go_enter Tryz.func31, Tryz.ntmps31
 go_wp2_with fail
 refine (HE.out _ (by (first|exact bwg|go_size))).mono ?_
 rintro e5 w5 ⟨rfl, hb5⟩
 have HB5 := Lib.hid (show Below w.heap.size w w5 by (first|exact bwg|go_size))
 clear hb5 HE
 by_cases h0 : E = 0
 ·subst h0
  obtain ⟨n, rfl, hcw⟩ := HCU.out rfl
  obtain ⟨w6, hW⟩ : ∃ w6, w6 = w5.alloc (Obj.cells #[.slice ab nb cb, .int .i64 st, .slice ag ng cg, .int .i64 vo, .int .i64 lo, .int .i64 hi, .int .i64 ci, .int .i64 br, .int .i64 re] 100) := ⟨_, rfl⟩
  have hb6 : Below w5.heap.size w5 w6 := by rw [hW]; (first|exact bwg|go_size)
  have k6 : BlkR w6 w5.heap.size (.cells #[.slice ab nb cb, .int .i64 st, .slice ag ng cg, .int .i64 vo, .int .i64 lo, .int .i64 hi, .int .i64 ci, .int .i64 br, .int .i64 re] 100) := by show w6.heap[w5.heap.size]? = _; rw [hW]; exact heap_alloc_new _ _
  have HB6 := bwt HB5 hb6
  obtain ⟨X6, hX6⟩ : ∃ X, X = w5.heap.size := ⟨_, rfl⟩
  rw [← hX6] at k6
  have K6 := Lib.hid k6
  obtain ⟨c6, c6_1, c6_2, c6_3, c6_4, c6_5, c6_6, c6_7, c6_8, l6⟩ := blkc9 K6.out
  clear hb6 k6
  have HCW := Lib.hid (hcw w6 HB6.out)
  have HLX := Lib.hid (HL.out.trans (by rw [if_pos rfl, Int.toNat_natCast]))
  clear hcw HCU HL
  go_wp2_with fail
  rw [← hW]
  simp only [← hX6]
  clear hW hX6
  refine HCW.out.mono ?_
  rintro e7 w7 ⟨g, rfl, hg, hgr, hb7⟩
  have HK := Lib.hid (And.intro hgr hb7)
  clear hg hgr hb7
  go_wp2
  go_ret2
  refine ⟨some ⟨g, 0, none⟩, nb, nb, rfl, HB6.out.trans (HK.out.2.mono HB6.out.size), ?_⟩
  rw [HLX.out]
  have hln := HLN.out n
  refine ⟨by rw [pcells_length, hln], by unfold maxLen; omega, fun _ => ⟨g, 0, rfl, (Array.getElem?_eq_some_iff.1 HK.out.1).1, fun i u hu => ?_⟩⟩
  rw [Nat.zero_add, cell_of_row _ _ _ _ _ _ HK.out.1, List.getElem?_toArray]
  exact hu
 ·have e1 := bne_iff_ne.2 h0
  have HLX := Lib.hid (HL.out.trans (if_neg h0))
  clear h0 HCU HL
  go_wp2
  go_ret2
  exact ⟨none, 0, 0, rfl, HB5.out.alloc HB5.out.size _, by rw [HLX.out]; exact PairsR.nil _ _⟩
def opnE (m : Mac) (l : Lim) : Int := firstErr [(macE m).2, limE l]
theorem opnE_zero {m : Mac} {l : Lim} (h : opnE m l = 0) : MacV m ∧ limE l = 0 := by
 unfold opnE at h
 rw [firstErr_cons, firstErr_cons] at h
 exact ⟨(macE_zero h.1).2, h.2.1⟩
def failE (m : Mac) (l : Lim) : Int := if opnE m l ≠ 0 then opnE m l else unl (faiV m l).isSome 12
def failL (m : Mac) (l : Lim) : List Nat := if opnE m l ≠ 0 then [] else (faiV m l).getD []
def invE (m : Mac) (l : Lim) : Int := if opnE m l ≠ 0 then opnE m l else unl (!(faiV m l).isSome) 12
def invL (m : Mac) (l : Lim) : List Nat := if invE m l ≠ 0 then [] else reaS m
set_option maxHeartbeats 1000000 in
set_option maxRecDepth 100000 in
theorem failureOf_any (m : Mac) (l : Lim) (ab ag : Option Addr) (nb cb ng cg : Nat) (w : World) (hb : BrR w ab nb m.br) (hg : GrR w ag ng m.gs) :
    Calls Tryz.prog 14 #[.agg #[.slice ab nb cb, .int .i64 m.st, .slice ag ng cg], .agg #[.int .i64 l.volt, .int .i64 l.lo, .int .i64 l.hi, .int .i64 l.circ, .int .i64 l.brk, .int .i64 l.ret]] w
     fun e' w' => ∃ a' n' c', e' = .returned (.tuple #[.slice a' n' c', .int .i64 (failE m l)]) ∧ Below w.heap.size w w' ∧ IntsR w' a' n' (nats (failL m l)) := by
 have HO := Lib.hid (fun (W : World) (hbw : Below w.heap.size w W) => open_any m l ab ag nb cb ng cg W (hb.below hbw) (hg.below hbw))
 have HFA := Lib.hid (fun (h : opnE m l = 0) (W : World) (hbw : Below w.heap.size w W) => failure_any m l ab ag nb cb ng cg W (opnE_zero h).1 (opnE_zero h).2 (hb.below hbw) (hg.below hbw))
 have hE1 : failE m l = if opnE m l ≠ 0 then opnE m l else unl (faiV m l).isSome 12 := rfl
 have hE2 : failL m l = if opnE m l ≠ 0 then [] else (faiV m l).getD [] := rfl
 rw [show firstErr [(macE m).2, limE l] = opnE m l from rfl] at HO
 generalize failE m l = V1 at *
 generalize failL m l = V2 at *
 generalize opnE m l = E at *
 generalize faiV m l = FV at *
 have HE1 := Lib.hid hE1
 have HE2 := Lib.hid hE2
 obtain ⟨vo, lo, hi, ci, br, re⟩ := l
 obtain ⟨st, hst⟩ : ∃ x, x = m.st := ⟨_, rfl⟩
 rw [← hst] at HO HFA ⊢
 simp only at HO HFA ⊢
 clear hb hg hst hE1 hE2
 go_enter Tryz.func14, Tryz.ntmps14
 go_wp2_with fail
 refine (HO.out _ (by (first|exact bwg|go_size))).mono ?_
 rintro e5 w5 ⟨rfl, hb5⟩
 have HB5 := Lib.hid (show Below w.heap.size w w5 by (first|exact bwg|go_size))
 clear hb5 HO
 by_cases h0 : E = 0
 ·subst h0
  obtain ⟨w6, hW⟩ : ∃ w6, w6 = w5.alloc (Obj.cells #[.slice ab nb cb, .int .i64 st, .slice ag ng cg, .int .i64 vo, .int .i64 lo, .int .i64 hi, .int .i64 ci, .int .i64 br, .int .i64 re] 100) := ⟨_, rfl⟩
  have hb6 : Below w5.heap.size w5 w6 := by rw [hW]; (first|exact bwg|go_size)
  have k6 : BlkR w6 w5.heap.size (.cells #[.slice ab nb cb, .int .i64 st, .slice ag ng cg, .int .i64 vo, .int .i64 lo, .int .i64 hi, .int .i64 ci, .int .i64 br, .int .i64 re] 100) := by show w6.heap[w5.heap.size]? = _; rw [hW]; exact heap_alloc_new _ _
  have HB6 := bwt HB5 hb6
  obtain ⟨X6, hX6⟩ : ∃ X, X = w5.heap.size := ⟨_, rfl⟩
  rw [← hX6] at k6
  have K6 := Lib.hid k6
  obtain ⟨c6, c6_1, c6_2, c6_3, c6_4, c6_5, c6_6, c6_7, c6_8, l6⟩ := blkc9 K6.out
  clear hb6 k6
  have HCW := Lib.hid (HFA.out rfl w6 HB6.out)
  have HV1 := Lib.hid (HE1.out.trans (if_neg (by simp)))
  have HV2 := Lib.hid (HE2.out.trans (if_neg (by simp)))
  clear HFA HE1 HE2
  go_wp2_with fail
  rw [← hW]
  simp only [← hX6]
  clear hW hX6
  refine HCW.out.mono ?_
  rintro e7 w7 ⟨a', n', c', rfl, hb7, hr⟩
  have HK := Lib.hid (And.intro hb7 hr)
  clear hb7 hr
  go_wp2_with fail
  refine (t_unless_any _ _ _).mono ?_
  rintro e8 w8 ⟨rfl, rfl⟩
  go_wp2
  go_ret2
  exact ⟨a', n', c', by first | (rw [HV1.out]; done) | (rw [HV1.out]; rfl), HB6.out.trans (HK.out.1.mono HB6.out.size), by rw [HV2.out]; exact HK.out.2⟩
 ·have e1 := bne_iff_ne.2 h0
  have HV1 := Lib.hid (HE1.out.trans (if_pos h0))
  have HV2 := Lib.hid (HE2.out.trans (if_pos h0))
  clear h0 HFA HE1 HE2
  go_wp2
  go_ret2
  exact ⟨none, 0, 0, by first | (rw [HV1.out]; done) | (rw [HV1.out]; rfl), HB5.out.alloc HB5.out.size _, by rw [HV2.out]; exact IntsR.nil _ _⟩
set_option maxHeartbeats 1000000 in
set_option maxRecDepth 100000 in
theorem invariantOf_any (m : Mac) (l : Lim) (ab ag : Option Addr) (nb cb ng cg : Nat) (w : World) (hb : BrR w ab nb m.br) (hg : GrR w ag ng m.gs) :
    Calls Tryz.prog 16 #[.agg #[.slice ab nb cb, .int .i64 m.st, .slice ag ng cg], .agg #[.int .i64 l.volt, .int .i64 l.lo, .int .i64 l.hi, .int .i64 l.circ, .int .i64 l.brk, .int .i64 l.ret]] w
     fun e' w' => ∃ a' n' c', e' = .returned (.tuple #[.slice a' n' c', .int .i64 (invE m l)]) ∧ Below w.heap.size w w' ∧ IntsR w' a' n' (nats (invL m l)) := by
 have HO := Lib.hid (fun (W : World) (hbw : Below w.heap.size w W) => open_any m l ab ag nb cb ng cg W (hb.below hbw) (hg.below hbw))
 have HFA := Lib.hid (fun (h : opnE m l = 0) (W : World) (hbw : Below w.heap.size w W) => failure_any m l ab ag nb cb ng cg W (opnE_zero h).1 (opnE_zero h).2 (hb.below hbw) (hg.below hbw))
 have HRE := Lib.hid (fun (h : opnE m l = 0) (W : World) (hbw : Below w.heap.size w W) => reachable_any m ab ag nb cb ng cg W (opnE_zero h).1 hb.len (hg.below hbw))
 have hE1 : invE m l = if opnE m l ≠ 0 then opnE m l else unl (!(faiV m l).isSome) 12 := rfl
 have hE2 : invL m l = if invE m l ≠ 0 then [] else reaS m := rfl
 rw [show firstErr [(macE m).2, limE l] = opnE m l from rfl] at HO
 generalize invE m l = V1 at *
 generalize invL m l = V2 at *
 generalize opnE m l = E at *
 generalize faiV m l = FV at *
 have HE1 := Lib.hid hE1
 have HE2 := Lib.hid hE2
 obtain ⟨vo, lo, hi, ci, br, re⟩ := l
 obtain ⟨st, hst⟩ : ∃ x, x = m.st := ⟨_, rfl⟩
 rw [← hst] at HO HFA HRE ⊢
 simp only at HO HFA ⊢
 clear hb hg hst hE1 hE2
 go_enter Tryz.func16, Tryz.ntmps16
 go_wp2_with fail
 refine (HO.out _ (by (first|exact bwg|go_size))).mono ?_
 rintro e5 w5 ⟨rfl, hb5⟩
 have HB5 := Lib.hid (show Below w.heap.size w w5 by (first|exact bwg|go_size))
 clear hb5 HO
 by_cases h0 : E = 0
 ·subst h0
  obtain ⟨w6, hW⟩ : ∃ w6, w6 = w5.alloc (Obj.cells #[.slice ab nb cb, .int .i64 st, .slice ag ng cg, .int .i64 vo, .int .i64 lo, .int .i64 hi, .int .i64 ci, .int .i64 br, .int .i64 re] 100) := ⟨_, rfl⟩
  have hb6 : Below w5.heap.size w5 w6 := by rw [hW]; (first|exact bwg|go_size)
  have k6 : BlkR w6 w5.heap.size (.cells #[.slice ab nb cb, .int .i64 st, .slice ag ng cg, .int .i64 vo, .int .i64 lo, .int .i64 hi, .int .i64 ci, .int .i64 br, .int .i64 re] 100) := by show w6.heap[w5.heap.size]? = _; rw [hW]; exact heap_alloc_new _ _
  have HB6 := bwt HB5 hb6
  obtain ⟨X6, hX6⟩ : ∃ X, X = w5.heap.size := ⟨_, rfl⟩
  rw [← hX6] at k6
  have K6 := Lib.hid k6
  obtain ⟨c6, c6_1, c6_2, c6_3, c6_4, c6_5, c6_6, c6_7, c6_8, l6⟩ := blkc9 K6.out
  clear hb6 k6
  have HCW := Lib.hid (HFA.out rfl w6 HB6.out)
  have HV1 := Lib.hid (HE1.out.trans (if_neg (by simp)))
  have HRX := Lib.hid (HRE.out rfl)
  clear HFA HE1 HRE
  generalize FV.getD [] = FL at *
  go_wp2_with fail
  rw [← hW]
  simp only [← hX6]
  clear hW hX6
  refine HCW.out.mono ?_
  rintro e7 w7 ⟨a', n', c', rfl, hb7, hr⟩
  have HB7 := bwt HB6 hb7
  have K6 := Lib.hid (K6.out.below hb7)
  clear hb7 hr c6 c6_1 c6_2 c6_3 c6_4 c6_5 c6_6 c6_7 c6_8 l6
  obtain ⟨c6, c6_1, c6_2, c6_3, c6_4, c6_5, c6_6, c6_7, c6_8, l6⟩ := blkc9 K6.out
  have HRW := Lib.hid (HRX.out w7 HB7.out)
  generalize FV.isSome = FB at *
  cases FB
  ·have HV2 := Lib.hid (show V2 = reaS m from HE2.out.trans (by rw [HV1.out]; exact if_neg (by decide)))
   have HV3 := Lib.hid (show V1 = 0 from HV1.out)
   go_wp2_with fail
   refine HRW.out.mono ?_
   rintro e8 w8 ⟨a2, n2, c2, rfl, hb8, hr8⟩
   have HK := Lib.hid (And.intro hb8 hr8)
   clear hb8 hr8
   go_wp2
   go_ret2
   exact ⟨a2, n2, c2, by first | (rw [HV3.out]; done) | (rw [HV3.out]; rfl), HB7.out.trans (HK.out.1.mono HB7.out.size), by rw [HV2.out]; exact HK.out.2⟩
  ·have HV2 := Lib.hid (show V2 = [] from HE2.out.trans (by rw [HV1.out]; exact if_pos (by decide)))
   have HV3 := Lib.hid (show V1 = 12 from HV1.out)
   go_wp2
   go_ret2
   exact ⟨none, 0, 0, by first | (rw [HV3.out]; done) | (rw [HV3.out]; rfl), HB7.out, by rw [HV2.out]; exact IntsR.nil _ _⟩
 ·have e1 := bne_iff_ne.2 h0
  have HV1 := Lib.hid (HE1.out.trans (if_pos h0))
  have HV2 := Lib.hid (show V2 = [] from HE2.out.trans (by rw [HV1.out]; exact if_pos h0))
  clear h0 HFA HE1 HE2 HRE
  go_wp2
  go_ret2
  exact ⟨none, 0, 0, by first | (rw [HV1.out]; done) | (rw [HV1.out]; rfl), HB5.out.alloc HB5.out.size _, by rw [HV2.out]; exact IntsR.nil _ _⟩
/- Equality of fractions (the reference's helper). -/
set_option maxRecDepth 100000 in
theorem fracs_any (l1 l2 : List (Int × Int)) (a1 a2 : Option Addr) (n1 c1 n2 c2 : Nat) (w : World) (h1 : PairsR w a1 n1 l1) (h2 : PairsR w a2 n2 l2) :
    Calls Tryz.prog 36 #[.slice a1 n1 c1, .slice a2 n2 c2] w fun e' w' => e' = .returned (.bool (decide (l1 = l2))) ∧ ∃ m, w' = w.drewN m := by
 have H1 := Lib.hid h1
 have H2 := Lib.hid h2
 have hn1 := h1.small
 have hn2 := h2.small
 clear h1 h2
 by_cases hne : n1 = n2
 ·subst hne
  have hbb : ((n1 : Int) != (n1 : Int)) = false := by simp
  go_enter Tryz.func36, Tryz.ntmps36
  go_wp2
  go_loopw [5] (fun i wr => ∃ k : Nat, i = .int .i64 k ∧ k ≤ n1 ∧ Hid (decide (l1.drop k = l2.drop k) = decide (l1 = l2)) ∧ ∃ m, wr = w.drewN m) (fun i _ => n1 - (intOf i).toNat)
  case atStart => exact ⟨0, rfl, Nat.zero_le _, rfl, 0, rfl⟩
  case round =>
   obtain ⟨k, rfl, hk, hF, m, rfl⟩ := hrel
   by_cases hlt : k < n1
   ·obtain ⟨b1, o1, rfl, hb1, hc1⟩ := H1.out.addr (by omega)
    obtain ⟨b2, o2, rfl, hb2, hc2⟩ := H2.out.addr (by omega)
    have hck1 := (hc1 k hlt).1
    have hck1' := (hc1 k hlt).2
    have hck2 := (hc2 k hlt).1
    have hck2' := (hc2 k hlt).2
    clear hc1 hc2
    have hF' := hF.out
    rw [drop_at l1 k (0, 0) (by rw [H1.out.len]; exact hlt), drop_at l2 k (0, 0) (by rw [H2.out.len]; exact hlt)] at hF'
    obtain ⟨⟨x, y⟩, hx⟩ : ∃ x, x = l1.getD k (0, 0) := ⟨_, rfl⟩
    obtain ⟨⟨x2, y2⟩, hy⟩ : ∃ y, y = l2.getD k (0, 0) := ⟨_, rfl⟩
    rw [← hx] at hck1 hck1' hF'
    rw [← hy] at hck2 hck2' hF'
    have HF := Lib.hid hF'
    have hk0 : (0 : Int) ≤ (k : Int) := by omega
    have hk1 : (k : Int) < (n1 : Int) := by omega
    clear hx hy hF' hF
    go_wp2
    by_cases hxy : x = x2
    ·subst hxy
     by_cases hyz : y = y2
     ·subst hyz
      go_wp2
      refine drew_of_eq 8 (by kernel_rfl) (by kernel_rfl) ?_; simp only [List.take_succ_cons, List.take_zero, List.drop_succ_cons, List.drop_zero]; repeat go_big_quiet_step (fail)
      refine wpQuiet_nil ?_; intro m7
      go_wp2
      go_roundw
      case rel => exact ⟨k + 1, by go_num, by omega, Lib.hid (by simpa using HF.out), _, rfl⟩
      case measure => simp [intOf]; omega
     ·have hbx : (y == y2) = false := by simpa using hyz
      go_wp2
      refine drew_of_eq 8 (by kernel_rfl) (by kernel_rfl) ?_; simp only [List.take_succ_cons, List.take_zero, List.drop_succ_cons, List.drop_zero]; repeat go_big_quiet_step (fail)
      refine wpQuiet_nil ?_; intro m7
      go_wp2
      go_ret
      exact ⟨ret_bool (by rw [← HF.out]; simp [hyz]), _, rfl⟩
    ·have hbx : (x == x2) = false := by simpa using hxy
     go_wp2
     refine drew_of_eq 8 (by kernel_rfl) (by kernel_rfl) ?_; simp only [List.take_succ_cons, List.take_zero, List.drop_succ_cons, List.drop_zero]; repeat go_big_quiet_step (fail)
     refine wpQuiet_nil ?_; intro m7
     go_wp2
     go_ret
     exact ⟨ret_bool (by rw [← HF.out]; simp [hxy]), _, rfl⟩
   ·go_wp2
    go_ret
    exact ⟨ret_bool (by rw [← hF.out, drop_end l1 k (by rw [H1.out.len]; omega), drop_end l2 k (by rw [H2.out.len]; omega)]; rfl), m, rfl⟩
 ·have hbb : ((n1 : Int) != (n2 : Int)) = true := by simp; omega
  go_enter Tryz.func36, Tryz.ntmps36
  go_wp2
  go_ret
  refine ⟨ret_bool ?_, 0, rfl⟩
  have : ¬ l1 = l2 := by intro h; apply hne; rw [← H1.out.len, ← H2.out.len, h]
  simp [this]
/- The examples of the chapter: machine, limits, regulator; what the plain words give for them. -/
theorem SlR.of_blk {w : World} {b t n sz : Nat} {cs : Array Value} (h : w.heap[b]? = some (.cells cs t)) (hl : cs.size = n * sz) (hn : n ≤ maxLen) : SlR w (some ⟨b, 0, none⟩) n sz cs.toList := by
 refine ⟨by simpa using hl, hn, fun _ => ⟨b, 0, rfl, (Array.getElem?_eq_some_iff.1 h).1, fun i u hu => ?_⟩⟩
 rw [Nat.zero_add, cell_of_row _ _ _ _ _ _ h]
 simpa using hu
def mac0 : Mac := ⟨[⟨0, 0⟩, ⟨0, 2⟩, ⟨1, 2⟩, ⟨1, 0⟩], 3, [⟨0, false, 2, 12⟩, ⟨2, true, 2, 9⟩, ⟨1, false, 4, 9⟩, ⟨3, true, 4, 3⟩]⟩
def mac1 : Mac := ⟨[⟨0, 0⟩, ⟨0, 2⟩, ⟨1, 2⟩, ⟨1, 0⟩], 3, [⟨0, false, 2, 12⟩, ⟨2, true, 2, 9⟩, ⟨1, false, 4, 9⟩, ⟨3, true, 4, 1⟩]⟩
def lim0 : Lim := ⟨12, 0, 10, 4, 10, 30⟩
def reg0 : Reg := ⟨100, 3, 2, 5, -4, 4⟩
set_option maxRecDepth 100000 in
theorem cur0_e : eleE mac0 lim0 6 10 = 0 := by decide
set_option maxRecDepth 100000 in
theorem cur0 : curT mac0 lim0 6 10 = [(0, 1), (2, 1), (8, 1), (0, 1)] := by decide
set_option maxRecDepth 100000 in
theorem opn0 : opnE mac0 lim0 = 0 := by decide
set_option maxRecDepth 100000 in
theorem opn1 : opnE mac1 lim0 = 0 := by decide
set_option maxRecDepth 100000 in
theorem saf0 : safE mac0 lim0 3 = 0 := by decide
set_option maxRecDepth 100000 in
theorem fai0_5 : faiF mac0 5 = [(3, []), (2, [0]), (6, [0, 2]), (4, [0, 2, 1]), (12, [0, 2, 1, 3])] := by decide
set_option maxRecDepth 100000 in
theorem faiK0 : ∀ k, k < 5 → faiK mac0 lim0 k = none := by decide
theorem fai0 : faiV mac0 lim0 = none := by
 unfold faiV
 rw [show mac0.st.toNat = 3 from rfl, saf0, if_neg (by simp)]
 have h := faiK0
 rw [show (64 : Nat) = 64 - 0 from rfl, faiFrom_step (by omega) (h 0 (by omega)), faiFrom_step (by omega) (h 1 (by omega)), faiFrom_step (by omega) (h 2 (by omega)), faiFrom_step (by omega) (h 3 (by omega)), faiFrom_step (by omega) (h 4 (by omega))]
 exact faiFrom_none (k := 5) (by rw [fai0_5]; decide) (64 - 5) 0
theorem inv0_e : invE mac0 lim0 = 0 := by
 unfold invE
 rw [opn0, fai0]
 rfl
set_option maxRecDepth 100000 in
theorem inv0 : invL mac0 lim0 = [2, 3, 4, 6, 12] := by
 unfold invL
 rw [inv0_e, if_neg (by simp)]
 have h5 : reaF mac0 5 = [3, 2, 6, 4, 12] := by rw [← faiF_keys, fai0_5]; rfl
 have hA : reaA mac0 = [3, 2, 6, 4, 12] := by rw [← h5]; exact (reaF_all (opnE_zero opn0).1 (by rw [h5]; decide) (by omega)).symm
 unfold reaS
 rw [hA]
 decide
set_option maxRecDepth 100000 in
theorem saf1 : safE mac1 lim0 3 = 0 := by decide
set_option maxRecDepth 100000 in
theorem faiK1 : ∀ k, k < 2 → faiK mac1 lim0 k = none := by decide
set_option maxRecDepth 100000 in
theorem faiK2 : faiK mac1 lim0 2 = some [0, 2, 3] := by decide
theorem fai1 : faiV mac1 lim0 = some [0, 2, 3] := by
 unfold faiV
 rw [show mac1.st.toNat = 3 from rfl, saf1, if_neg (by simp)]
 have h := faiK1
 rw [show (64 : Nat) = 64 - 0 from rfl, faiFrom_step (by omega) (h 0 (by omega)), faiFrom_step (by omega) (h 1 (by omega))]
 exact faiFrom_found (by omega) faiK2
theorem fail1_e : failE mac1 lim0 = 0 := by
 unfold failE
 rw [opn1, fai1]
 rfl
theorem fail1 : failL mac1 lim0 = [0, 2, 3] := by
 unfold failL
 rw [opn1, fai1]
 rfl
set_option maxRecDepth 100000 in
theorem rep0 : Rep (tick reg0 90) ⟨0, 0⟩ 5 4 := ⟨by omega, by decide, fun i j h1 h2 => by
 have : ∀ j, j < 5 → ∀ i, i < j → itr (tick reg0 90) ⟨0, 0⟩ i ≠ itr (tick reg0 90) ⟨0, 0⟩ j := by decide
 exact this j h2 i h1⟩
set_option maxRecDepth 100000 in
theorem set0 : lastM (tick reg0 90) (mvT reg0 90) ⟨0, 0⟩ 5 = 4 ∧ (itr (tick reg0 90) ⟨0, 0⟩ 5).tap = 2 := by decide
def pai0 : Pai := ⟨reg0, reg0, ⟨0, 0⟩, ⟨0, 0⟩⟩
set_option maxRecDepth 100000 in
theorem repP0 : Rep (tickP 90) pai0 5 4 := ⟨by omega, by decide, fun i j h1 h2 => by
 have : ∀ j, j < 5 → ∀ i, i < j → itr (tickP 90) pai0 i ≠ itr (tickP 90) pai0 j := by decide
 exact this j h2 i h1⟩
set_option maxRecDepth 100000 in
theorem setP0 : lastM (tickP 90) (mvP 90) pai0 5 = 4 := by decide
theorem whole_any (n : Int) (w : World) : Calls Tryz.prog 37 #[.int .i64 n] w fun e' w' => e' = .returned (.agg #[.int .i64 n, .int .i64 1]) ∧ Below w.heap.size w w' := by
 go_enter Tryz.func37, Tryz.ntmps37
 go_wp2
 refine bodyPost_ret (v := .agg #[.int .i64 n, .int .i64 1]) (by simp [results, Tryz.results37, go_sem]) rfl ⟨rfl, by (first|exact bwg|go_size)⟩
theorem limits_any (w : World) : Calls Tryz.prog 33 #[] w fun e' w' => e' = .returned (.agg #[.int .i64 12, .int .i64 0, .int .i64 10, .int .i64 4, .int .i64 10, .int .i64 30]) ∧ Below w.heap.size w w' := by
 go_enter Tryz.func33, Tryz.ntmps33
 go_wp2
 refine bodyPost_ret (v := .agg #[.int .i64 12, .int .i64 0, .int .i64 10, .int .i64 4, .int .i64 10, .int .i64 30]) (by simp [results, Tryz.results33, go_sem]) rfl ⟨rfl, by (first|exact bwg|go_size)⟩
theorem regulator_any (w : World) : Calls Tryz.prog 35 #[] w fun e' w' => e' = .returned (.agg #[.int .i64 100, .int .i64 3, .int .i64 2, .int .i64 5, .int .i64 (-4), .int .i64 4]) ∧ Below w.heap.size w w' := by
 go_enter Tryz.func35, Tryz.ntmps35
 go_wp2
 refine bodyPost_ret (v := .agg #[.int .i64 100, .int .i64 3, .int .i64 2, .int .i64 5, .int .i64 (-4), .int .i64 4]) (by simp [results, Tryz.results35, go_sem]) rfl ⟨rfl, by (first|exact bwg|go_size)⟩
def brs0 : Array Value := #[.int .i64 0, .int .i64 0, .int .i64 0, .int .i64 2, .int .i64 1, .int .i64 2, .int .i64 1, .int .i64 0]
def grs0 : Array Value := #[.int .i64 0, .bool false, .int .i64 2, .int .i64 12, .int .i64 2, .bool true, .int .i64 2, .int .i64 9, .int .i64 1, .bool false, .int .i64 4, .int .i64 9, .int .i64 3, .bool true, .int .i64 4, .int .i64 3]
def grs1 : Array Value := #[.int .i64 0, .bool false, .int .i64 2, .int .i64 12, .int .i64 2, .bool true, .int .i64 2, .int .i64 9, .int .i64 1, .bool false, .int .i64 4, .int .i64 9, .int .i64 3, .bool true, .int .i64 4, .int .i64 1]
theorem br0_of {w : World} {b : Nat} (h : BlkR w b (.cells brs0 126)) : BrR w (some ⟨b, 0, none⟩) 4 mac0.br := ⟨rfl, SlR.of_blk h rfl (by unfold maxLen; omega)⟩
theorem gr0_of {w : World} {b : Nat} (h : BlkR w b (.cells grs0 77)) : GrR w (some ⟨b, 0, none⟩) 4 mac0.gs := ⟨rfl, SlR.of_blk h rfl (by unfold maxLen; omega)⟩
theorem gr1_of {w : World} {b : Nat} (h : BlkR w b (.cells grs1 77)) : GrR w (some ⟨b, 0, none⟩) 4 mac1.gs := ⟨rfl, SlR.of_blk h rfl (by unfold maxLen; omega)⟩
set_option maxRecDepth 100000 in
theorem machine_any (w : World) : Calls Tryz.prog 32 #[] w fun e' w' => ∃ b1 b2, e' = .returned (.agg #[.slice (some ⟨b1, 0, none⟩) 4 4, .int .i64 3, .slice (some ⟨b2, 0, none⟩) 4 4]) ∧ Below w.heap.size w w' ∧ w.heap.size ≤ b2 ∧ BlkR w' b1 (.cells brs0 126) ∧ BlkR w' b2 (.cells grs0 77) ∧ b1 ≠ b2 := by
 go_enter Tryz.func32, Tryz.ntmps32
 go_wp2
 refine bodyPost_ret (v := .agg #[.slice (some ⟨w.heap.size + 1, 0, none⟩) 4 4, .int .i64 3, .slice (some ⟨w.heap.size + 1 + 1, 0, none⟩) 4 4]) (by simp [results, Tryz.results32, go_sem]) rfl ⟨w.heap.size + 1, w.heap.size + 1 + 1, rfl, by (first|exact bwg|go_size), by omega, ?_, ?_, by omega⟩
 ·have := heap_alloc_new (w.alloc (Obj.cells #[.slice (some ⟨w.heap.size + 1, 0, none⟩) 4 4, .int .i64 3, .slice (some ⟨w.heap.size + 1 + 1, 0, none⟩) 4 4] 45)) (Obj.cells brs0 126)
  rw [World.size_alloc] at this
  exact (Below.heap_alloc _ _ _ (by simp)).trans this
 ·have := heap_alloc_new ((w.alloc (Obj.cells #[.slice (some ⟨w.heap.size + 1, 0, none⟩) 4 4, .int .i64 3, .slice (some ⟨w.heap.size + 1 + 1, 0, none⟩) 4 4] 45)).alloc (Obj.cells brs0 126)) (Obj.cells grs0 77)
  rw [World.size_alloc, World.size_alloc] at this
  exact this
/- Settlings, and when pairs rest: the program's exported functions. -/
def SetP (r : Reg) (m : Mom) (d : Int) (t x : Int) (b : Bool) : Prop := ∃ T fr, Rep (tick r d) m T fr ∧ t = ((lastM (tick r d) (mvT r d) m T : Nat) : Int) ∧ x = (itr (tick r d) m T).tap ∧ b = decide (lastM (tick r d) (mvT r d) m T ≤ fr)
set_option maxHeartbeats 1000000 in
set_option maxRecDepth 100000 in
theorem settling_any (r : Reg) (m : Mom) (d : Int) (w : World) (hr : RegV r) (hm : MomV r m) (hd : -10000 ≤ d ∧ d ≤ 10000) :
    Calls Tryz.prog 70 #[.agg #[.int .i64 r.tgt, .int .i64 r.band, .int .i64 r.dly, .int .i64 r.stp, .int .i64 r.lo, .int .i64 r.hi], .agg #[.int .i64 m.tap, .int .i64 m.wait], .int .i64 d] w
     fun e' w' => Below w.heap.size w w' ∧ ∃ t x b, SetP r m d t x b ∧ e' = .returned (.tuple #[.agg #[.int .i64 t, .int .i64 x], .bool b]) := by
 have HR := Lib.hid (fun (XR XD : Nat) (W : World) (h1 : BlkR W XR (.cells #[.int .i64 r.tgt, .int .i64 r.band, .int .i64 r.dly, .int .i64 r.stp, .int .i64 r.lo, .int .i64 r.hi] 25)) (h2 : BlkR W XD (.cells #[.int .i64 d] 3)) => restM_any r m d XR XD W hr hm hd h1 h2)
 have HSP := Lib.hid (fun (T fr : Nat) (h : Rep (tick r d) m T fr) => show SetP r m d _ _ _ from ⟨T, fr, h, rfl, rfl, rfl⟩)
 generalize itr (tick r d) m = ST at *
 generalize hsp : SetP r m d = SP at *
 generalize hrp : Rep (tick r d) m = RP at *
 generalize lastM (tick r d) (mvT r d) m = LA at *
 obtain ⟨tgt, band, dly, stp, lo, hi⟩ := r
 obtain ⟨tap, wait⟩ := m
 simp only at HR ⊢
 clear hr hm hd hsp hrp
 go_enter Tryz.func70, Tryz.ntmps70
 go_wp2_with fail
 obtain ⟨w4, hW4⟩ : ∃ w4, w4 = (((w.alloc (Obj.cells #[.int .i64 tgt, .int .i64 band, .int .i64 dly, .int .i64 stp, .int .i64 lo, .int .i64 hi] 25)).alloc (Obj.cells #[.int .i64 tap, .int .i64 wait] 27)).alloc (Obj.cells #[.int .i64 d] 3)).alloc (Obj.cells #[.int .i64 0, .int .i64 0] 79) := ⟨_, rfl⟩
 rw [← hW4]
 have hb4 : Below w.heap.size w w4 := by rw [hW4]; (first|exact bwg|go_size)
 have k3 : BlkR w4 w.heap.size (.cells #[.int .i64 tgt, .int .i64 band, .int .i64 dly, .int .i64 stp, .int .i64 lo, .int .i64 hi] 25) := by
  show w4.heap[w.heap.size]? = _
  rw [hW4, Below.heap_alloc _ _ _ (by first | (simp; done) | (simp; omega)), Below.heap_alloc _ _ _ (by first | (simp; done) | (simp; omega)), Below.heap_alloc _ _ _ (by simp)]
  exact heap_alloc_new _ _
 have k4 : BlkR w4 (w.heap.size + 1) (.cells #[.int .i64 tap, .int .i64 wait] 27) := by
  show w4.heap[w.heap.size + 1]? = _
  rw [hW4, Below.heap_alloc _ _ _ (by first | (simp; done) | (simp; omega)), Below.heap_alloc _ _ _ (by simp)]
  have := heap_alloc_new (w.alloc (Obj.cells #[.int .i64 tgt, .int .i64 band, .int .i64 dly, .int .i64 stp, .int .i64 lo, .int .i64 hi] 25)) (Obj.cells #[.int .i64 tap, .int .i64 wait] 27)
  simpa using this
 have k5 : BlkR w4 (w.heap.size + 1 + 1) (.cells #[.int .i64 d] 3) := by
  show w4.heap[w.heap.size + 1 + 1]? = _
  rw [hW4, Below.heap_alloc _ _ _ (by simp)]
  have := heap_alloc_new ((w.alloc (Obj.cells #[.int .i64 tgt, .int .i64 band, .int .i64 dly, .int .i64 stp, .int .i64 lo, .int .i64 hi] 25)).alloc (Obj.cells #[.int .i64 tap, .int .i64 wait] 27)) (Obj.cells #[.int .i64 d] 3)
  simpa using this
 have k6 : BlkR w4 (w.heap.size + 1 + 1 + 1) (.cells #[.int .i64 0, .int .i64 0] 79) := by
  show w4.heap[w.heap.size + 1 + 1 + 1]? = _
  rw [hW4]
  have := heap_alloc_new (((w.alloc (Obj.cells #[.int .i64 tgt, .int .i64 band, .int .i64 dly, .int .i64 stp, .int .i64 lo, .int .i64 hi] 25)).alloc (Obj.cells #[.int .i64 tap, .int .i64 wait] 27)).alloc (Obj.cells #[.int .i64 d] 3)) (Obj.cells #[.int .i64 0, .int .i64 0] 79)
  simpa using this
 obtain ⟨X3, hX3⟩ : ∃ X, X = w.heap.size := ⟨_, rfl⟩
 obtain ⟨X4, hX4⟩ : ∃ X, X = w.heap.size + 1 := ⟨_, rfl⟩
 obtain ⟨X5, hX5⟩ : ∃ X, X = w.heap.size + 1 + 1 := ⟨_, rfl⟩
 obtain ⟨X6, hX6⟩ : ∃ X, X = w.heap.size + 1 + 1 + 1 := ⟨_, rfl⟩
 rw [← hX6] at k6
 rw [← hX5] at k5
 rw [← hX4] at k4
 rw [← hX3] at k3
 simp only [← hX6]
 simp only [← hX5]
 simp only [← hX4]
 simp only [← hX3]
 have hw4 : w.heap.size ≤ X4 := by omega
 have hw6 : w.heap.size ≤ X6 := by omega
 have n46 : X4 ≠ X6 := by omega
 have HRW := Lib.hid (HR.out X3 X5 w4 k3 k5)
 clear hW4 hX3 hX4 hX5 hX6 k3 k5 HR
 refine HRW.out.mono ?_
 rintro e5 w5 ⟨hb5, T, fr, hrp, rfl⟩
 have HS := Lib.hid (HSP.out T fr hrp)
 have K4 := Lib.hid (k4.below hb5)
 have K6 := Lib.hid (k6.below hb5)
 have HB := Lib.hid (hb4.trans (hb5.mono hb4.size))
 obtain ⟨c0, c1, _⟩ := blkc2 K4.out
 have f0 := blk_fz K4.out 0
 have f1 := blk_fz K4.out 1
 have l4 := K4.out.lt
 obtain ⟨d0, d1, _⟩ := blkc2 K6.out
 have g0 := blk_fz K6.out 0
 have g1 := blk_fz K6.out 1
 have l6 := K6.out.lt
 generalize decide (LA T ≤ fr) = rb at *
 generalize LA T = la at *
 generalize ST T = S at *
 obtain ⟨s1, s2⟩ := S
 simp only at HS
 clear k4 k6 hb5 hb4 HRW HSP hrp
 go_wp2
 have kA := blk_set (blk_set K4.out 0 (.int .i64 s1)) 1 (.int .i64 s2)
 have k6' : ((w5.setCell ⟨X4, 0, none⟩ (.int .i64 s1)).setCell ⟨X4, 1, none⟩ (.int .i64 s2)).heap[X6]? = _ := (heap_set_neI n46.symm).trans ((heap_set_neI n46.symm).trans K6.out)
 have hbw : Below w.heap.size w ((w5.setCell ⟨X4, 0, none⟩ (.int .i64 s1)).setCell ⟨X4, 1, none⟩ (.int .i64 s2)) := (HB.out.setCell hw4 _).setCell hw4 _
 have kw := blk_set (blk_set k6' 0 (.int .i64 (la : Int))) 1 (.int .i64 s1)
 obtain ⟨r0, r1, _⟩ := blkc2 kw
 refine bodyPost_ret (v := .tuple #[.agg #[.int .i64 (la : Int), .int .i64 s1], .bool rb]) (by simp [results, Tryz.results70, go_sem, r0, r1]) rfl ⟨(hbw.setCell hw6 _).setCell hw6 _, _, _, _, HS.out, rfl⟩
def SetO (r : Reg) (m : Mom) (d t x e : Int) : Prop := (rgdE r m d ≠ 0 ∧ t = 0 ∧ x = 0 ∧ e = rgdE r m d) ∨ (rgdE r m d = 0 ∧ ∃ t' x' b, SetP r m d t' x' b ∧ ((b = true ∧ t = t' ∧ x = x' ∧ e = 0) ∨ (b = false ∧ t = 0 ∧ x = 0 ∧ e = 21)))
theorem rgdE_zero {r : Reg} {m : Mom} {d : Int} (h : rgdE r m d = 0) : RegV r ∧ MomV r m ∧ -10000 ≤ d ∧ d ≤ 10000 := by
 unfold rgdE at h
 rw [firstErr_zero', firstErr_zero', firstErr_zero', regE_zero, momE_zero, swE_zero] at h
 exact ⟨h.1, h.2.1, h.2.2.1⟩
set_option maxHeartbeats 1000000 in
set_option maxRecDepth 100000 in
theorem settlingOf_any (r : Reg) (m : Mom) (d : Int) (w : World) :
    Calls Tryz.prog 34 #[.agg #[.int .i64 r.tgt, .int .i64 r.band, .int .i64 r.dly, .int .i64 r.stp, .int .i64 r.lo, .int .i64 r.hi], .agg #[.int .i64 m.tap, .int .i64 m.wait], .int .i64 d] w
     fun e' w' => Below w.heap.size w w' ∧ ∃ t x e, e' = .returned (.tuple #[.agg #[.int .i64 t, .int .i64 x], .int .i64 e]) ∧ SetO r m d t x e := by
 have HE := Lib.hid (fun (W : World) => regulated_any r m d W)
 have HS := Lib.hid (fun (h : rgdE r m d = 0) (W : World) => settling_any r m d W (rgdE_zero h).1 (rgdE_zero h).2.1 (rgdE_zero h).2.2)
 have HO1 := Lib.hid (fun (h : rgdE r m d ≠ 0) => show SetO r m d 0 0 (rgdE r m d) from .inl ⟨h, rfl, rfl, rfl⟩)
 have HO2 := Lib.hid (fun (h : rgdE r m d = 0) (t x : Int) (hs : SetP r m d t x true) => show SetO r m d t x 0 from .inr ⟨h, t, x, true, hs, .inl ⟨rfl, rfl, rfl, rfl⟩⟩)
 have HO3 := Lib.hid (fun (h : rgdE r m d = 0) (t x : Int) (hs : SetP r m d t x false) => show SetO r m d 0 0 21 from .inr ⟨h, t, x, false, hs, .inr ⟨rfl, rfl, rfl, rfl⟩⟩)
 generalize SetO r m d = SO at *
 generalize SetP r m d = SP at *
 generalize rgdE r m d = E at *
 obtain ⟨tgt, band, dly, stp, lo, hi⟩ := r
 obtain ⟨tap, wait⟩ := m
 simp only at HE HS ⊢
 go_enter Tryz.func34, Tryz.ntmps34
 go_wp2_with fail
 obtain ⟨w3, hW3⟩ : ∃ w3, w3 = ((w.alloc (Obj.cells #[.int .i64 tgt, .int .i64 band, .int .i64 dly, .int .i64 stp, .int .i64 lo, .int .i64 hi] 25)).alloc (Obj.cells #[.int .i64 tap, .int .i64 wait] 27)).alloc (Obj.cells #[.int .i64 0, .int .i64 0] 79) := ⟨_, rfl⟩
 rw [← hW3]
 have hb3 : Below w.heap.size w w3 := by rw [hW3]; (first|exact bwg|go_size)
 have k3 : BlkR w3 w.heap.size (.cells #[.int .i64 tgt, .int .i64 band, .int .i64 dly, .int .i64 stp, .int .i64 lo, .int .i64 hi] 25) := by
  show w3.heap[w.heap.size]? = _
  rw [hW3, Below.heap_alloc _ _ _ (by first | (simp; done) | (simp; omega)), Below.heap_alloc _ _ _ (by simp)]
  exact heap_alloc_new _ _
 have k4 : BlkR w3 (w.heap.size + 1) (.cells #[.int .i64 tap, .int .i64 wait] 27) := by
  show w3.heap[w.heap.size + 1]? = _
  rw [hW3, Below.heap_alloc _ _ _ (by simp)]
  have := heap_alloc_new (w.alloc (Obj.cells #[.int .i64 tgt, .int .i64 band, .int .i64 dly, .int .i64 stp, .int .i64 lo, .int .i64 hi] 25)) (Obj.cells #[.int .i64 tap, .int .i64 wait] 27)
  simpa using this
 have k6 : BlkR w3 (w.heap.size + 1 + 1) (.cells #[.int .i64 0, .int .i64 0] 79) := by
  show w3.heap[w.heap.size + 1 + 1]? = _
  rw [hW3]
  have := heap_alloc_new ((w.alloc (Obj.cells #[.int .i64 tgt, .int .i64 band, .int .i64 dly, .int .i64 stp, .int .i64 lo, .int .i64 hi] 25)).alloc (Obj.cells #[.int .i64 tap, .int .i64 wait] 27)) (Obj.cells #[.int .i64 0, .int .i64 0] 79)
  simpa using this
 obtain ⟨X3, hX3⟩ : ∃ X, X = w.heap.size := ⟨_, rfl⟩
 obtain ⟨X4, hX4⟩ : ∃ X, X = w.heap.size + 1 := ⟨_, rfl⟩
 obtain ⟨X6, hX6⟩ : ∃ X, X = w.heap.size + 1 + 1 := ⟨_, rfl⟩
 rw [← hX6] at k6
 rw [← hX4] at k4
 rw [← hX3] at k3
 simp only [← hX6]
 simp only [← hX4]
 simp only [← hX3]
 have hw6 : w.heap.size ≤ X6 := by omega
 clear hW3 hX3 hX4 hX6
 refine (HE.out w3).mono ?_
 rintro e5 w5 ⟨rfl, hb5⟩
 have K3 := Lib.hid (k3.below hb5)
 have K4 := Lib.hid (k4.below hb5)
 have K6 := Lib.hid (k6.below hb5)
 have HB := Lib.hid (hb3.trans (hb5.mono hb3.size))
 clear k3 k4 k6 hb3 hb5 HE
 by_cases h0 : E = 0
 ·subst h0
  have HSW := Lib.hid (HS.out rfl w5)
  obtain ⟨c0, c1, c2, c3, c4, c5, l3⟩ := blkc6 K3.out
  obtain ⟨m0, m1, l4⟩ := blkc2 K4.out
  clear HS
  go_wp2_with fail
  refine HSW.out.mono ?_
  rintro e7 w7 ⟨hb7, t, x, b, hsp, rfl⟩
  have HSP := Lib.hid hsp
  have n9 : X6 < w7.heap.size := Nat.lt_of_lt_of_le K6.out.lt hb7.size
  have hb8 : Below w5.heap.size w5 (w7.alloc (Obj.cells #[.int .i64 t, .int .i64 x] 79)) := Below.trans hb7 (show Below w5.heap.size w7 _ from (Below.refl _ _).alloc hb7.size _)
  have k9 : BlkR (w7.alloc (Obj.cells #[.int .i64 t, .int .i64 x] 79)) w7.heap.size (.cells #[.int .i64 t, .int .i64 x] 79) := heap_alloc_new _ _
  have K6 := Lib.hid (K6.out.below hb7)
  have HB := bwt HB hb7
  obtain ⟨d0, d1, _⟩ := blkc2 K6.out
  have g0 := blk_fz K6.out 0
  have g1 := blk_fz K6.out 1
  have l6 := K6.out.lt
  have K9 := Lib.hid k9
  clear c0 c1 c2 c3 c4 c5 l3 m0 m1 l4 hb7 hb8 k9 hsp
  cases b
  ·have HSO := Lib.hid (HO3.out (by trivial) t x HSP.out)
   go_wp2
   have kw := blk_below (blk_set (blk_set K6.out 0 (.int .i64 0)) 1 (.int .i64 0)) (show Below _ _ (World.alloc _ (Obj.cells #[.int .i64 t, .int .i64 x] 79)) from (Below.refl _ _).alloc (Nat.le_refl _) _)
   obtain ⟨r0, r1, _⟩ := blkc2 kw
   have hbw : Below w.heap.size w ((w7.setCell ⟨X6, 0, none⟩ (.int .i64 0)).setCell ⟨X6, 1, none⟩ (.int .i64 0)) := (HB.out.setCell hw6 _).setCell hw6 _
   refine bodyPost_ret (v := .tuple #[.agg #[.int .i64 0, .int .i64 0], .int .i64 21]) (by simp [results, Tryz.results34, go_sem, r0, r1]) rfl ⟨hbw.alloc hbw.size _, _, _, _, rfl, HSO.out⟩
  ·have HSO := Lib.hid (HO2.out (by trivial) t x HSP.out)
   go_wp2
   have kw := blk_below (blk_set (blk_set K6.out 0 (.int .i64 t)) 1 (.int .i64 x)) (show Below _ _ (World.alloc _ (Obj.cells #[.int .i64 t, .int .i64 x] 79)) from (Below.refl _ _).alloc (Nat.le_refl _) _)
   obtain ⟨r0, r1, _⟩ := blkc2 kw
   have hbw : Below w.heap.size w ((w7.setCell ⟨X6, 0, none⟩ (.int .i64 t)).setCell ⟨X6, 1, none⟩ (.int .i64 x)) := (HB.out.setCell hw6 _).setCell hw6 _
   refine bodyPost_ret (v := .tuple #[.agg #[.int .i64 t, .int .i64 x], .int .i64 0]) (by simp [results, Tryz.results34, go_sem, r0, r1]) rfl ⟨hbw.alloc hbw.size _, _, _, _, rfl, HSO.out⟩
 ·have e1 := bne_iff_ne.2 h0
  have HSO := Lib.hid (HO1.out h0)
  obtain ⟨d0, d1, _⟩ := blkc2 K6.out
  have g0 := blk_fz K6.out 0
  have g1 := blk_fz K6.out 1
  have l6 := K6.out.lt
  clear h0 HS
  go_wp2
  have kw := blk_set (blk_set K6.out 0 (.int .i64 0)) 1 (.int .i64 0)
  obtain ⟨r0, r1, _⟩ := blkc2 kw
  refine bodyPost_ret (v := .tuple #[.agg #[.int .i64 0, .int .i64 0], .int .i64 E]) (by simp [results, Tryz.results34, go_sem, r0, r1]) rfl ⟨(HB.out.setCell hw6 _).setCell hw6 _, _, _, _, rfl, HSO.out⟩
end Go.Proofs.YtdjinmieogpgcaaGreat
