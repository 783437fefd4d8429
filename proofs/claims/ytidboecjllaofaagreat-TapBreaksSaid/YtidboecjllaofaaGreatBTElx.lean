import Derived.Test.YtidboecjllaofaaGreatBTCirP
import Derived.Test.YtidboecjllaofaaGreatBTElc
import Derived.Test.YtidboecjllaofaaGreatQTFai
/- The exported functions of currents, failures and invariants: the program. -/
namespace Go.Proofs.YtidboecjllaofaaGreat
open Go.RowKit Go.Shelf
set_option linter.unusedVariables false
set_option linter.unusedSimpArgs false
set_option maxHeartbeats 1000000 in
set_option maxRecDepth 100000 in
theorem currentsIn_any (m : Mac) (l : Lim) (s load : Int) (ab ag : Option Addr) (nb cb ng cg : Nat) (w : World) (hb : BrR w ab nb m.br) (hg : GrR w ag ng m.gs) (h8 : nb ≤ 8) :
    Calls Tryz.prog 25 #[.agg #[.slice ab nb cb, .int .i64 m.st, .slice ag ng cg], .agg #[.int .i64 l.volt, .int .i64 l.lo, .int .i64 l.hi, .int .i64 l.circ, .int .i64 l.brk, .int .i64 l.ret], .int .i64 s, .int .i64 load] w
     fun e' w' => ∃ a' n' c', e' = .returned (.tuple #[.slice a' n' c', .int .i64 (eleE m l s load)]) ∧ Below w.heap.size w w' ∧ PairsR w' a' n' (if eleE m l s load = 0 then curT m l s.toNat load else []) := by
 have HE := Lib.hid (fun (W : World) (hbw : Below w.heap.size w W) => electric_any m l s load ab ag nb cb ng cg W (hb.below hbw) (hg.below hbw) h8)
 have HCU := Lib.hid (fun (h : eleE m l s load = 0) => show ∃ n : Nat, s = (n : Int) ∧ ∀ (W : World), Below w.heap.size w W → Calls Tryz.prog 99 #[.agg #[.slice ab nb cb, .int .i64 m.st, .slice ag ng cg, .int .i64 l.volt, .int .i64 l.lo, .int .i64 l.hi, .int .i64 l.circ, .int .i64 l.brk, .int .i64 l.ret], .int .i64 (n : Int), .int .i64 load] W (fun e' w' => ∃ g, e' = .returned (.slice (some ⟨g, 0, none⟩) nb nb) ∧ W.heap.size ≤ g ∧ w'.heap[g]? = some (.cells (pcells (curT m l n load)).toArray 58) ∧ Below W.heap.size W w') from by
  unfold eleE at h
  split at h
  ·rename_i h1; exact absurd h h1
  ·rename_i h1
   have h1 := Decidable.not_not.1 h1
   obtain ⟨hm, hl, ⟨n, rfl, hn⟩, hd⟩ := eleZ_zero h1
   rw [Int.toNat_natCast] at h
   have hv := ElV.of h1 h
   exact ⟨n, rfl, fun W hbw => currents_any m l n load ab ag nb cb ng cg W hm (hb.below hbw) hv.hl hv.hd (by rw [← hb.len]; exact hn) hv.h0⟩)
 have HLN := Lib.hid (fun (n : Nat) => show (curT m l n load).length = nb by rw [curT_len, hb.len])
 obtain ⟨L, hL⟩ : ∃ L, L = if eleE m l s load = 0 then curT m l s.toNat load else [] := ⟨_, rfl⟩
 have HL := Lib.hid hL
 rw [← hL]
 clear hL
 generalize eleE m l s load = E at *
 have hcu : ∀ n, curT m l n load = curT m l n load := fun _ => rfl
 generalize hCT : (fun n => curT m l n load) = CT at *
 have HCT := Lib.hid (fun n => (congrFun hCT n : curT m l n load = CT n))
 obtain ⟨vo, lo, hi, ci, br, re⟩ := l
 obtain ⟨st, hst⟩ : ∃ x, x = m.st := ⟨_, rfl⟩
 rw [← hst] at HE HCU ⊢
 simp only at HE HCU ⊢
 clear hb hg hst hcu hCT
 go_enter Tryz.func25, Tryz.ntmps25
 go_wp2_with fail
 refine (HE.out _ (by (repeat' first|(with_reducible first|exact bw1|assumption|refine bw2 ?_ _|refine bw3 ?_ ?_ _|refine bw4 ?_|refine bw5 ?_ ?_ _|refine bw6 (by assumption) ?_ ?_|exact And.left (by assumption))|go_size))).mono ?_
 rintro e5 w5 ⟨rfl, hb5⟩
 have HB5 := Lib.hid (show Below w.heap.size w w5 by (repeat' first|(with_reducible first|exact bw1|assumption|refine bw2 ?_ _|refine bw3 ?_ ?_ _|refine bw4 ?_|refine bw5 ?_ ?_ _|refine bw6 (by assumption) ?_ ?_|exact And.left (by assumption))|go_size))
 clear hb5 HE
 by_cases h0 : E = 0
 ·subst h0
  obtain ⟨n, rfl, hcw⟩ := HCU.out rfl
  obtain ⟨w6, hW⟩ : ∃ w6, w6 = w5.alloc (Obj.cells #[.slice ab nb cb, .int .i64 st, .slice ag ng cg, .int .i64 vo, .int .i64 lo, .int .i64 hi, .int .i64 ci, .int .i64 br, .int .i64 re] 164) := ⟨_, rfl⟩
  have hb6 : Below w5.heap.size w5 w6 := by rw [hW]; (repeat' first|(with_reducible first|exact bw1|assumption|refine bw2 ?_ _|refine bw3 ?_ ?_ _|refine bw4 ?_|refine bw5 ?_ ?_ _|refine bw6 (by assumption) ?_ ?_|exact And.left (by assumption))|go_size)
  have k6 : BlkR w6 w5.heap.size (.cells #[.slice ab nb cb, .int .i64 st, .slice ag ng cg, .int .i64 vo, .int .i64 lo, .int .i64 hi, .int .i64 ci, .int .i64 br, .int .i64 re] 164) := by show w6.heap[w5.heap.size]? = _; rw [hW]; exact heap_alloc_new _ _
  have HB6 := Lib.hid (HB5.out.trans (hb6.mono HB5.out.size))
  obtain ⟨X6, hX6⟩ : ∃ X, X = w5.heap.size := ⟨_, rfl⟩
  rw [← hX6] at k6
  have K6 := Lib.hid k6
  obtain ⟨c6, c6_1, c6_2, c6_3, c6_4, c6_5, c6_6, c6_7, c6_8, l6⟩ := blkc9 K6.out
  clear hb6 k6
  have HCW := Lib.hid (hcw w6 HB6.out)
  have HLX := Lib.hid (HL.out.trans (by rw [if_pos rfl, Int.toNat_natCast]))
  clear hcw HCU HL
  go_wp2_with fail
  rw [← hW]
  simp only [← hX6]
  clear hW hX6
  refine HCW.out.mono ?_
  rintro e7 w7 ⟨g, rfl, hg, hgr, hb7⟩
  have HK := Lib.hid (And.intro hgr hb7)
  clear hg hgr hb7
  go_wp2
  go_ret2
  refine ⟨some ⟨g, 0, none⟩, nb, nb, rfl, HB6.out.trans (HK.out.2.mono HB6.out.size), ?_⟩
  rw [HLX.out]
  have hln := HLN.out n
  refine ⟨by rw [pcells_length, hln], by unfold maxLen; omega, fun _ => ⟨g, 0, rfl, (Array.getElem?_eq_some_iff.1 HK.out.1).1, fun i u hu => ?_⟩⟩
  rw [Nat.zero_add, cell_of_row _ _ _ _ _ _ HK.out.1, List.getElem?_toArray]
  exact hu
 ·have e1 := bne_iff_ne.2 h0
  have HLX := Lib.hid (HL.out.trans (if_neg h0))
  clear h0 HCU HL
  go_wp2
  go_ret2
  exact ⟨none, 0, 0, rfl, HB5.out.alloc HB5.out.size _, by rw [HLX.out]; exact PairsR.nil _ _⟩
def opnE (m : Mac) (l : Lim) : Int := firstErr [(macE m).2, limE l]
theorem opnE_zero {m : Mac} {l : Lim} (h : opnE m l = 0) : MacV m ∧ limE l = 0 := by
 unfold opnE at h
 rw [firstErr_cons, firstErr_cons] at h
 exact ⟨(macE_zero h.1).2, h.2.1⟩
def failE (m : Mac) (l : Lim) : Int := if opnE m l ≠ 0 then opnE m l else unl (faiV m l).isSome 12
def failL (m : Mac) (l : Lim) : List Nat := if opnE m l ≠ 0 then [] else (faiV m l).getD []
def invE (m : Mac) (l : Lim) : Int := if opnE m l ≠ 0 then opnE m l else unl (!(faiV m l).isSome) 12
def invL (m : Mac) (l : Lim) : List Nat := if invE m l ≠ 0 then [] else reaS m
set_option maxHeartbeats 1000000 in
set_option maxRecDepth 100000 in
theorem failureOf_any (m : Mac) (l : Lim) (ab ag : Option Addr) (nb cb ng cg : Nat) (w : World) (hb : BrR w ab nb m.br) (hg : GrR w ag ng m.gs) :
    Calls Tryz.prog 69 #[.agg #[.slice ab nb cb, .int .i64 m.st, .slice ag ng cg], .agg #[.int .i64 l.volt, .int .i64 l.lo, .int .i64 l.hi, .int .i64 l.circ, .int .i64 l.brk, .int .i64 l.ret]] w
     fun e' w' => ∃ a' n' c', e' = .returned (.tuple #[.slice a' n' c', .int .i64 (failE m l)]) ∧ Below w.heap.size w w' ∧ IntsR w' a' n' (nats (failL m l)) := by
 have HO := Lib.hid (fun (W : World) (hbw : Below w.heap.size w W) => open_any m l ab ag nb cb ng cg W (hb.below hbw) (hg.below hbw))
 have HFA := Lib.hid (fun (h : opnE m l = 0) (W : World) (hbw : Below w.heap.size w W) => failure_any m l ab ag nb cb ng cg W (opnE_zero h).1 (opnE_zero h).2 (hb.below hbw) (hg.below hbw))
 have hE1 : failE m l = if opnE m l ≠ 0 then opnE m l else unl (faiV m l).isSome 12 := rfl
 have hE2 : failL m l = if opnE m l ≠ 0 then [] else (faiV m l).getD [] := rfl
 rw [show firstErr [(macE m).2, limE l] = opnE m l from rfl] at HO
 generalize failE m l = V1 at *
 generalize failL m l = V2 at *
 generalize opnE m l = E at *
 generalize faiV m l = FV at *
 have HE1 := Lib.hid hE1
 have HE2 := Lib.hid hE2
 obtain ⟨vo, lo, hi, ci, br, re⟩ := l
 obtain ⟨st, hst⟩ : ∃ x, x = m.st := ⟨_, rfl⟩
 rw [← hst] at HO HFA ⊢
 simp only at HO HFA ⊢
 clear hb hg hst hE1 hE2
 go_enter Tryz.func69, Tryz.ntmps69
 go_wp2_with fail
 refine (HO.out _ (by (repeat' first|(with_reducible first|exact bw1|assumption|refine bw2 ?_ _|refine bw3 ?_ ?_ _|refine bw4 ?_|refine bw5 ?_ ?_ _|refine bw6 (by assumption) ?_ ?_|exact And.left (by assumption))|go_size))).mono ?_
 rintro e5 w5 ⟨rfl, hb5⟩
 have HB5 := Lib.hid (show Below w.heap.size w w5 by (repeat' first|(with_reducible first|exact bw1|assumption|refine bw2 ?_ _|refine bw3 ?_ ?_ _|refine bw4 ?_|refine bw5 ?_ ?_ _|refine bw6 (by assumption) ?_ ?_|exact And.left (by assumption))|go_size))
 clear hb5 HO
 by_cases h0 : E = 0
 ·subst h0
  obtain ⟨w6, hW⟩ : ∃ w6, w6 = w5.alloc (Obj.cells #[.slice ab nb cb, .int .i64 st, .slice ag ng cg, .int .i64 vo, .int .i64 lo, .int .i64 hi, .int .i64 ci, .int .i64 br, .int .i64 re] 164) := ⟨_, rfl⟩
  have hb6 : Below w5.heap.size w5 w6 := by rw [hW]; (repeat' first|(with_reducible first|exact bw1|assumption|refine bw2 ?_ _|refine bw3 ?_ ?_ _|refine bw4 ?_|refine bw5 ?_ ?_ _|refine bw6 (by assumption) ?_ ?_|exact And.left (by assumption))|go_size)
  have k6 : BlkR w6 w5.heap.size (.cells #[.slice ab nb cb, .int .i64 st, .slice ag ng cg, .int .i64 vo, .int .i64 lo, .int .i64 hi, .int .i64 ci, .int .i64 br, .int .i64 re] 164) := by show w6.heap[w5.heap.size]? = _; rw [hW]; exact heap_alloc_new _ _
  have HB6 := Lib.hid (HB5.out.trans (hb6.mono HB5.out.size))
  obtain ⟨X6, hX6⟩ : ∃ X, X = w5.heap.size := ⟨_, rfl⟩
  rw [← hX6] at k6
  have K6 := Lib.hid k6
  obtain ⟨c6, c6_1, c6_2, c6_3, c6_4, c6_5, c6_6, c6_7, c6_8, l6⟩ := blkc9 K6.out
  clear hb6 k6
  have HCW := Lib.hid (HFA.out rfl w6 HB6.out)
  have HV1 := Lib.hid (HE1.out.trans (if_neg (by simp)))
  have HV2 := Lib.hid (HE2.out.trans (if_neg (by simp)))
  clear HFA HE1 HE2
  go_wp2_with fail
  rw [← hW]
  simp only [← hX6]
  clear hW hX6
  refine HCW.out.mono ?_
  rintro e7 w7 ⟨a', n', c', rfl, hb7, hr⟩
  have HK := Lib.hid (And.intro hb7 hr)
  clear hb7 hr
  go_wp2_with fail
  refine (t_unless_any _ _ _).mono ?_
  rintro e8 w8 ⟨rfl, rfl⟩
  go_wp2
  go_ret2
  exact ⟨a', n', c', by first | (rw [HV1.out]; done) | (rw [HV1.out]; rfl), HB6.out.trans (HK.out.1.mono HB6.out.size), by rw [HV2.out]; exact HK.out.2⟩
 ·have e1 := bne_iff_ne.2 h0
  have HV1 := Lib.hid (HE1.out.trans (if_pos h0))
  have HV2 := Lib.hid (HE2.out.trans (if_pos h0))
  clear h0 HFA HE1 HE2
  go_wp2
  go_ret2
  exact ⟨none, 0, 0, by first | (rw [HV1.out]; done) | (rw [HV1.out]; rfl), HB5.out.alloc HB5.out.size _, by rw [HV2.out]; exact IntsR.nil _ _⟩
set_option maxHeartbeats 1000000 in
set_option maxRecDepth 100000 in
theorem invariantOf_any (m : Mac) (l : Lim) (ab ag : Option Addr) (nb cb ng cg : Nat) (w : World) (hb : BrR w ab nb m.br) (hg : GrR w ag ng m.gs) :
    Calls Tryz.prog 70 #[.agg #[.slice ab nb cb, .int .i64 m.st, .slice ag ng cg], .agg #[.int .i64 l.volt, .int .i64 l.lo, .int .i64 l.hi, .int .i64 l.circ, .int .i64 l.brk, .int .i64 l.ret]] w
     fun e' w' => ∃ a' n' c', e' = .returned (.tuple #[.slice a' n' c', .int .i64 (invE m l)]) ∧ Below w.heap.size w w' ∧ IntsR w' a' n' (nats (invL m l)) := by
 have HO := Lib.hid (fun (W : World) (hbw : Below w.heap.size w W) => open_any m l ab ag nb cb ng cg W (hb.below hbw) (hg.below hbw))
 have HFA := Lib.hid (fun (h : opnE m l = 0) (W : World) (hbw : Below w.heap.size w W) => failure_any m l ab ag nb cb ng cg W (opnE_zero h).1 (opnE_zero h).2 (hb.below hbw) (hg.below hbw))
 have HRE := Lib.hid (fun (h : opnE m l = 0) (W : World) (hbw : Below w.heap.size w W) => reachable_any m ab ag nb cb ng cg W (opnE_zero h).1 hb.len (hg.below hbw))
 have hE1 : invE m l = if opnE m l ≠ 0 then opnE m l else unl (!(faiV m l).isSome) 12 := rfl
 have hE2 : invL m l = if invE m l ≠ 0 then [] else reaS m := rfl
 rw [show firstErr [(macE m).2, limE l] = opnE m l from rfl] at HO
 generalize invE m l = V1 at *
 generalize invL m l = V2 at *
 generalize opnE m l = E at *
 generalize faiV m l = FV at *
 have HE1 := Lib.hid hE1
 have HE2 := Lib.hid hE2
 obtain ⟨vo, lo, hi, ci, br, re⟩ := l
 obtain ⟨st, hst⟩ : ∃ x, x = m.st := ⟨_, rfl⟩
 rw [← hst] at HO HFA HRE ⊢
 simp only at HO HFA ⊢
 clear hb hg hst hE1 hE2
 go_enter Tryz.func70, Tryz.ntmps70
 go_wp2_with fail
 refine (HO.out _ (by (repeat' first|(with_reducible first|exact bw1|assumption|refine bw2 ?_ _|refine bw3 ?_ ?_ _|refine bw4 ?_|refine bw5 ?_ ?_ _|refine bw6 (by assumption) ?_ ?_|exact And.left (by assumption))|go_size))).mono ?_
 rintro e5 w5 ⟨rfl, hb5⟩
 have HB5 := Lib.hid (show Below w.heap.size w w5 by (repeat' first|(with_reducible first|exact bw1|assumption|refine bw2 ?_ _|refine bw3 ?_ ?_ _|refine bw4 ?_|refine bw5 ?_ ?_ _|refine bw6 (by assumption) ?_ ?_|exact And.left (by assumption))|go_size))
 clear hb5 HO
 by_cases h0 : E = 0
 ·subst h0
  obtain ⟨w6, hW⟩ : ∃ w6, w6 = w5.alloc (Obj.cells #[.slice ab nb cb, .int .i64 st, .slice ag ng cg, .int .i64 vo, .int .i64 lo, .int .i64 hi, .int .i64 ci, .int .i64 br, .int .i64 re] 164) := ⟨_, rfl⟩
  have hb6 : Below w5.heap.size w5 w6 := by rw [hW]; (repeat' first|(with_reducible first|exact bw1|assumption|refine bw2 ?_ _|refine bw3 ?_ ?_ _|refine bw4 ?_|refine bw5 ?_ ?_ _|refine bw6 (by assumption) ?_ ?_|exact And.left (by assumption))|go_size)
  have k6 : BlkR w6 w5.heap.size (.cells #[.slice ab nb cb, .int .i64 st, .slice ag ng cg, .int .i64 vo, .int .i64 lo, .int .i64 hi, .int .i64 ci, .int .i64 br, .int .i64 re] 164) := by show w6.heap[w5.heap.size]? = _; rw [hW]; exact heap_alloc_new _ _
  have HB6 := Lib.hid (HB5.out.trans (hb6.mono HB5.out.size))
  obtain ⟨X6, hX6⟩ : ∃ X, X = w5.heap.size := ⟨_, rfl⟩
  rw [← hX6] at k6
  have K6 := Lib.hid k6
  obtain ⟨c6, c6_1, c6_2, c6_3, c6_4, c6_5, c6_6, c6_7, c6_8, l6⟩ := blkc9 K6.out
  clear hb6 k6
  have HCW := Lib.hid (HFA.out rfl w6 HB6.out)
  have HV1 := Lib.hid (HE1.out.trans (if_neg (by simp)))
  have HRX := Lib.hid (HRE.out rfl)
  clear HFA HE1 HRE
  generalize FV.getD [] = FL at *
  go_wp2_with fail
  rw [← hW]
  simp only [← hX6]
  clear hW hX6
  refine HCW.out.mono ?_
  rintro e7 w7 ⟨a', n', c', rfl, hb7, hr⟩
  have HB7 := Lib.hid (HB6.out.trans (hb7.mono HB6.out.size))
  have K6 := Lib.hid (K6.out.below hb7)
  clear hb7 hr c6 c6_1 c6_2 c6_3 c6_4 c6_5 c6_6 c6_7 c6_8 l6
  obtain ⟨c6, c6_1, c6_2, c6_3, c6_4, c6_5, c6_6, c6_7, c6_8, l6⟩ := blkc9 K6.out
  have HRW := Lib.hid (HRX.out w7 HB7.out)
  generalize FV.isSome = FB at *
  cases FB
  ·have HV2 := Lib.hid (show V2 = reaS m from HE2.out.trans (by rw [HV1.out]; exact if_neg (by decide)))
   have HV3 := Lib.hid (show V1 = 0 from HV1.out)
   go_wp2_with fail
   refine HRW.out.mono ?_
   rintro e8 w8 ⟨a2, n2, c2, rfl, hb8, hr8⟩
   have HK := Lib.hid (And.intro hb8 hr8)
   clear hb8 hr8
   go_wp2
   go_ret2
   exact ⟨a2, n2, c2, by first | (rw [HV3.out]; done) | (rw [HV3.out]; rfl), HB7.out.trans (HK.out.1.mono HB7.out.size), by rw [HV2.out]; exact HK.out.2⟩
  ·have HV2 := Lib.hid (show V2 = [] from HE2.out.trans (by rw [HV1.out]; exact if_pos (by decide)))
   have HV3 := Lib.hid (show V1 = 12 from HV1.out)
   go_wp2
   go_ret2
   exact ⟨none, 0, 0, by first | (rw [HV3.out]; done) | (rw [HV3.out]; rfl), HB7.out, by rw [HV2.out]; exact IntsR.nil _ _⟩
 ·have e1 := bne_iff_ne.2 h0
  have HV1 := Lib.hid (HE1.out.trans (if_pos h0))
  have HV2 := Lib.hid (show V2 = [] from HE2.out.trans (by rw [HV1.out]; exact if_pos h0))
  clear h0 HFA HE1 HE2 HRE
  go_wp2
  go_ret2
  exact ⟨none, 0, 0, by first | (rw [HV1.out]; done) | (rw [HV1.out]; rfl), HB5.out.alloc HB5.out.size _, by rw [HV2.out]; exact IntsR.nil _ _⟩
end Go.Proofs.YtidboecjllaofaaGreat

/- The exported functions of states, changes and breaks: the program. -/
namespace Go.Proofs.YtidboecjllaofaaGreat
open Go.RowKit Go.Shelf
set_option linter.unusedVariables false
set_option linter.unusedSimpArgs false
theorem blk_put2 {w : World} {X t : Nat} {x0 x1 : Value} (h : w.heap[X]? = some (.cells #[x0, x1] t)) (v0 v1 : Value) :
    ((w.setCell ⟨X, 0, none⟩ v0).setCell ⟨X, 1, none⟩ v1).heap[X]? = some (.cells #[v0, v1] t) := by
 have h0 : (w.setCell ⟨X, 0, none⟩ v0).heap[X]? = some (.cells #[v0, x1] t) := by rw [blk_set h 0 v0]; rfl
 have h1 : ((w.setCell ⟨X, 0, none⟩ v0).setCell ⟨X, 1, none⟩ v1).heap[X]? = some (.cells #[v0, v1] t) := by rw [blk_set h0 1 v1]; rfl
 exact h1
end Go.Proofs.YtidboecjllaofaaGreat

/- The exported functions of safe states and changes, and of breaks: the program. -/
namespace Go.Proofs.YtidboecjllaofaaGreat
open Go.RowKit Go.Shelf
set_option linter.unusedVariables false
set_option linter.unusedSimpArgs false
def chsZ (m : Mac) (l : Lim) (s : Int) : Int := firstErr [opnE m l, staE m.br.length s]
def chsE (m : Mac) (l : Lim) (s : Int) : Int := if chsZ m l s ≠ 0 then chsZ m l s else safE m l s.toNat
def chmZ (m : Mac) (l : Lim) (s i : Int) : Int := firstErr [opnE m l, staE m.br.length s, conE m.br.length i]
def chmE (m : Mac) (l : Lim) (s i : Int) : Int := if chmZ m l s i ≠ 0 then chmZ m l s i else chgE m l s.toNat i.toNat
theorem chsZ_zero {m : Mac} {l : Lim} {s : Int} (h : chsZ m l s = 0) : MacV m ∧ limE l = 0 ∧ ∃ n : Nat, s = (n : Int) ∧ n < 2 ^ m.br.length := by
 unfold chsZ at h
 rw [firstErr_cons, firstErr_cons, staE_zero] at h
 obtain ⟨hm, hl⟩ := opnE_zero h.1
 refine ⟨hm, hl, s.toNat, by omega, ?_⟩
 have : ((2 ^ m.br.length : Nat) : Int) = (2 : Int) ^ m.br.length := by push_cast; rfl
 omega
theorem chmZ_zero {m : Mac} {l : Lim} {s i : Int} (h : chmZ m l s i = 0) : MacV m ∧ limE l = 0 ∧ (∃ n : Nat, s = (n : Int) ∧ n < 2 ^ m.br.length) ∧ ∃ k : Nat, i = (k : Int) ∧ k < m.br.length := by
 unfold chmZ at h
 rw [firstErr_cons, firstErr_cons, firstErr_cons, staE_zero, conE_zero] at h
 obtain ⟨hm, hl⟩ := opnE_zero h.1
 refine ⟨hm, hl, ⟨s.toNat, by omega, ?_⟩, i.toNat, by omega, by omega⟩
 have : ((2 ^ m.br.length : Nat) : Int) = (2 : Int) ^ m.br.length := by push_cast; rfl
 omega
set_option maxHeartbeats 1000000 in
set_option maxRecDepth 100000 in
theorem checkState_any (m : Mac) (l : Lim) (s : Int) (ab ag : Option Addr) (nb cb ng cg : Nat) (w : World) (hb : BrR w ab nb m.br) (hg : GrR w ag ng m.gs) (h8 : nb ≤ 8) :
    Calls Tryz.prog 60 #[.agg #[.slice ab nb cb, .int .i64 m.st, .slice ag ng cg], .agg #[.int .i64 l.volt, .int .i64 l.lo, .int .i64 l.hi, .int .i64 l.circ, .int .i64 l.brk, .int .i64 l.ret], .int .i64 s] w
     fun e' w' => e' = .returned (.int .i64 (chsE m l s)) ∧ Below w.heap.size w w' := by
 have HO := Lib.hid (fun (W : World) (hbw : Below w.heap.size w W) => open_any m l ab ag nb cb ng cg W (hb.below hbw) (hg.below hbw))
 have HST := Lib.hid (fun (W : World) => m_staE_any m.st nb cb ng cg ab ag s W h8)
 have HSA := Lib.hid (fun (h : chsZ m l s = 0) => show ∃ n : Nat, s = (n : Int) ∧ ∀ (W : World), Below w.heap.size w W → Calls Tryz.prog 139 #[.agg #[.slice ab nb cb, .int .i64 m.st, .slice ag ng cg, .int .i64 l.volt, .int .i64 l.lo, .int .i64 l.hi, .int .i64 l.circ, .int .i64 l.brk, .int .i64 l.ret], .int .i64 (n : Int)] W (fun e' w' => e' = .returned (.int .i64 (safE m l n)) ∧ Below W.heap.size W w') from by
  obtain ⟨hm, hl, n, rfl, hn⟩ := chsZ_zero h
  exact ⟨n, rfl, fun W hbw => safe_any m l n ab ag nb cb ng cg W hm hl (hb.below hbw) (by rw [← hb.len]; exact hn)⟩)
 have hV : chsE m l s = if chsZ m l s ≠ 0 then chsZ m l s else safE m l s.toNat := rfl
 have hZ : chsZ m l s = firstErr [opnE m l, staE nb s] := by unfold chsZ; rw [hb.len]
 rw [show firstErr [(macE m).2, limE l] = opnE m l from rfl] at HO
 generalize chsE m l s = V at *
 generalize chsZ m l s = E at *
 generalize opnE m l = E1 at *
 generalize staE nb s = E2 at *
 obtain ⟨CT, hCT⟩ : ∃ CT : Nat → Int, ∀ n, CT n = safE m l n := ⟨fun n => safE m l n, fun _ => rfl⟩
 simp only [← hCT] at HSA hV
 have HV := Lib.hid hV
 have HZ := Lib.hid hZ
 obtain ⟨vo, lo, hi, ci, br, re⟩ := l
 obtain ⟨st, hst⟩ : ∃ x, x = m.st := ⟨_, rfl⟩
 rw [← hst] at HO HST HSA ⊢
 simp only at HO HSA ⊢
 clear hb hg hst hCT hV hZ
 go_enter Tryz.func60, Tryz.ntmps60
 go_wp2_with fail
 refine (HO.out _ (by (repeat' first|(with_reducible first|exact bw1|assumption|refine bw2 ?_ _|refine bw3 ?_ ?_ _|refine bw4 ?_|refine bw5 ?_ ?_ _|refine bw6 (by assumption) ?_ ?_|exact And.left (by assumption))|go_size))).mono ?_
 rintro e5 w5 ⟨rfl, hb5⟩
 have HB5 := Lib.hid (show Below w.heap.size w w5 by (repeat' first|(with_reducible first|exact bw1|assumption|refine bw2 ?_ _|refine bw3 ?_ ?_ _|refine bw4 ?_|refine bw5 ?_ ?_ _|refine bw6 (by assumption) ?_ ?_|exact And.left (by assumption))|go_size))
 clear hb5 HO
 obtain ⟨w6, hW⟩ : ∃ w6, w6 = w5.alloc (Obj.cells #[.slice ab nb cb, .int .i64 st, .slice ag ng cg, .int .i64 vo, .int .i64 lo, .int .i64 hi, .int .i64 ci, .int .i64 br, .int .i64 re] 164) := ⟨_, rfl⟩
 have hb6 : Below w5.heap.size w5 w6 := by rw [hW]; (repeat' first|(with_reducible first|exact bw1|assumption|refine bw2 ?_ _|refine bw3 ?_ ?_ _|refine bw4 ?_|refine bw5 ?_ ?_ _|refine bw6 (by assumption) ?_ ?_|exact And.left (by assumption))|go_size)
 have k6 : BlkR w6 w5.heap.size (.cells #[.slice ab nb cb, .int .i64 st, .slice ag ng cg, .int .i64 vo, .int .i64 lo, .int .i64 hi, .int .i64 ci, .int .i64 br, .int .i64 re] 164) := by show w6.heap[w5.heap.size]? = _; rw [hW]; exact heap_alloc_new _ _
 have HB6 := Lib.hid (HB5.out.trans (hb6.mono HB5.out.size))
 obtain ⟨X6, hX6⟩ : ∃ X, X = w5.heap.size := ⟨_, rfl⟩
 rw [← hX6] at k6
 have K6 := Lib.hid k6
 clear hb6 k6
 obtain ⟨c6, c6_1, c6_2, c6_3, c6_4, c6_5, c6_6, c6_7, c6_8, l6⟩ := blkc9 K6.out
 go_wp2_with fail
 rw [← hW]
 simp only [← hX6]
 clear hW hX6
 refine (HST.out _).mono ?_
 rintro e7 w7 ⟨rfl, hb7⟩
 have K6 := Lib.hid (K6.out.below hb7)
 have HB := Lib.hid (HB6.out.trans (hb7.mono HB6.out.size))
 clear hb7 HST
 clear c6 c6_1 c6_2 c6_3 c6_4 c6_5 c6_6 c6_7 c6_8 l6
 go_wp2_with fail
 refine (t_first2 _ _ _ _ _ _ (by rfl) (by simp)).mono ?_
 rintro e8 w8 ⟨rfl, hw8⟩
 rw [← HZ.out]
 have hb8 : Below w7.heap.size w7 w8 := by rw [← hw8]; (repeat' first|(with_reducible first|exact bw1|assumption|refine bw2 ?_ _|refine bw3 ?_ ?_ _|refine bw4 ?_|refine bw5 ?_ ?_ _|refine bw6 (by assumption) ?_ ?_|exact And.left (by assumption))|go_size)
 have K6 := Lib.hid (K6.out.below hb8)
 have HB := Lib.hid (HB.out.trans (hb8.mono HB.out.size))
 clear hb8 hw8
 obtain ⟨c6, c6_1, c6_2, c6_3, c6_4, c6_5, c6_6, c6_7, c6_8, l6⟩ := blkc9 K6.out
 by_cases h0 : E = 0
 ·subst h0
  obtain ⟨n, rfl, hcw⟩ := HSA.out (by trivial)
  have HCW := Lib.hid (hcw w8 HB.out)
  have HVN := Lib.hid (show V = CT n from HV.out.trans (by rw [if_neg (by simp), Int.toNat_natCast]))
  clear hcw HSA HV
  go_wp2_with fail
  refine HCW.out.mono ?_
  rintro e9 w9 ⟨rfl, hb9⟩
  go_wp2
  go_ret
  exact ⟨ret_int (by rw [HVN.out]), HB.out.trans (hb9.mono HB.out.size)⟩
 ·have e1 := bne_iff_ne.2 h0
  have HVN := Lib.hid (show V = E from HV.out.trans (if_pos h0))
  clear h0 HSA HV
  go_wp2
  go_ret
  exact ⟨ret_int (by rw [HVN.out]), HB.out⟩
set_option maxHeartbeats 1000000 in
set_option maxRecDepth 100000 in
theorem checkMove_any (m : Mac) (l : Lim) (s i : Int) (ab ag : Option Addr) (nb cb ng cg : Nat) (w : World) (hb : BrR w ab nb m.br) (hg : GrR w ag ng m.gs) (h8 : nb ≤ 8) :
    Calls Tryz.prog 61 #[.agg #[.slice ab nb cb, .int .i64 m.st, .slice ag ng cg], .agg #[.int .i64 l.volt, .int .i64 l.lo, .int .i64 l.hi, .int .i64 l.circ, .int .i64 l.brk, .int .i64 l.ret], .int .i64 s, .int .i64 i] w
     fun e' w' => e' = .returned (.int .i64 (chmE m l s i)) ∧ Below w.heap.size w w' := by
 have HO := Lib.hid (fun (W : World) (hbw : Below w.heap.size w W) => open_any m l ab ag nb cb ng cg W (hb.below hbw) (hg.below hbw))
 have HST := Lib.hid (fun (W : World) => m_staE_any m.st nb cb ng cg ab ag s W h8)
 have HCO := Lib.hid (fun (W : World) => m_conE_any m.st nb cb ng cg ab ag i W (by omega))
 have HSA := Lib.hid (fun (h : chmZ m l s i = 0) => show ∃ n k : Nat, s = (n : Int) ∧ i = (k : Int) ∧ ∀ (W : World), Below w.heap.size w W → Calls Tryz.prog 140 #[.agg #[.slice ab nb cb, .int .i64 m.st, .slice ag ng cg, .int .i64 l.volt, .int .i64 l.lo, .int .i64 l.hi, .int .i64 l.circ, .int .i64 l.brk, .int .i64 l.ret], .int .i64 (n : Int), .int .i64 (k : Int)] W (fun e' w' => e' = .returned (.int .i64 (chgE m l n k)) ∧ Below W.heap.size W w') from by
  obtain ⟨hm, hl, ⟨n, rfl, hn⟩, k, rfl, hk⟩ := chmZ_zero h
  exact ⟨n, k, rfl, rfl, fun W hbw => change_any m l n k ab ag nb cb ng cg W hm hl (hb.below hbw) (hg.below hbw) (by rw [← hb.len]; exact hn) (by rw [← hb.len]; exact hk)⟩)
 have hV : chmE m l s i = if chmZ m l s i ≠ 0 then chmZ m l s i else chgE m l s.toNat i.toNat := rfl
 have hZ : chmZ m l s i = firstErr [opnE m l, staE nb s, conE nb i] := by unfold chmZ; rw [hb.len]
 rw [show firstErr [(macE m).2, limE l] = opnE m l from rfl] at HO
 generalize chmE m l s i = V at *
 generalize chmZ m l s i = E at *
 generalize opnE m l = E1 at *
 generalize staE nb s = E2 at *
 generalize conE nb i = E3 at *
 obtain ⟨CT, hCT⟩ : ∃ CT : Nat → Nat → Int, ∀ n k, CT n k = chgE m l n k := ⟨fun n k => chgE m l n k, fun _ _ => rfl⟩
 simp only [← hCT] at HSA hV
 have HV := Lib.hid hV
 have HZ := Lib.hid hZ
 obtain ⟨vo, lo, hi, ci, br, re⟩ := l
 obtain ⟨st, hst⟩ : ∃ x, x = m.st := ⟨_, rfl⟩
 rw [← hst] at HO HST HCO HSA ⊢
 simp only at HO HSA ⊢
 clear hb hg hst hCT hV hZ
 go_enter Tryz.func61, Tryz.ntmps61
 go_wp2_with fail
 refine (HO.out _ (by (repeat' first|(with_reducible first|exact bw1|assumption|refine bw2 ?_ _|refine bw3 ?_ ?_ _|refine bw4 ?_|refine bw5 ?_ ?_ _|refine bw6 (by assumption) ?_ ?_|exact And.left (by assumption))|go_size))).mono ?_
 rintro e5 w5 ⟨rfl, hb5⟩
 have HB5 := Lib.hid (show Below w.heap.size w w5 by (repeat' first|(with_reducible first|exact bw1|assumption|refine bw2 ?_ _|refine bw3 ?_ ?_ _|refine bw4 ?_|refine bw5 ?_ ?_ _|refine bw6 (by assumption) ?_ ?_|exact And.left (by assumption))|go_size))
 clear hb5 HO
 obtain ⟨w6, hW⟩ : ∃ w6, w6 = w5.alloc (Obj.cells #[.slice ab nb cb, .int .i64 st, .slice ag ng cg, .int .i64 vo, .int .i64 lo, .int .i64 hi, .int .i64 ci, .int .i64 br, .int .i64 re] 164) := ⟨_, rfl⟩
 have hb6 : Below w5.heap.size w5 w6 := by rw [hW]; (repeat' first|(with_reducible first|exact bw1|assumption|refine bw2 ?_ _|refine bw3 ?_ ?_ _|refine bw4 ?_|refine bw5 ?_ ?_ _|refine bw6 (by assumption) ?_ ?_|exact And.left (by assumption))|go_size)
 have k6 : BlkR w6 w5.heap.size (.cells #[.slice ab nb cb, .int .i64 st, .slice ag ng cg, .int .i64 vo, .int .i64 lo, .int .i64 hi, .int .i64 ci, .int .i64 br, .int .i64 re] 164) := by show w6.heap[w5.heap.size]? = _; rw [hW]; exact heap_alloc_new _ _
 have HB6 := Lib.hid (HB5.out.trans (hb6.mono HB5.out.size))
 obtain ⟨X6, hX6⟩ : ∃ X, X = w5.heap.size := ⟨_, rfl⟩
 rw [← hX6] at k6
 have K6 := Lib.hid k6
 clear hb6 k6
 obtain ⟨c6, c6_1, c6_2, c6_3, c6_4, c6_5, c6_6, c6_7, c6_8, l6⟩ := blkc9 K6.out
 go_wp2_with fail
 rw [← hW]
 simp only [← hX6]
 clear hW hX6
 refine later_of_eq 9 (by kernel_rfl) (by kernel_rfl) ?_; simp only [List.take_succ_cons, List.take_zero, List.drop_succ_cons, List.drop_zero]; repeat go_big_quiet_step(first | with_reducible exact calls_later (HST.out _) | with_reducible exact calls_later (HCO.out _))
 refine wpQuiet_nil ?_; intro w7 hb7
 have K6 := Lib.hid (K6.out.below hb7)
 have HB := Lib.hid (HB6.out.trans (hb7.mono HB6.out.size))
 clear hb7 HST HCO
 clear c6 c6_1 c6_2 c6_3 c6_4 c6_5 c6_6 c6_7 c6_8 l6
 go_wp2_with fail
 refine (t_first3 _ _ _ _ _ _ _ (by rfl) (by simp)).mono ?_
 rintro e8 w8 ⟨rfl, hw8⟩
 rw [← HZ.out]
 have hb8 : Below w7.heap.size w7 w8 := by rw [← hw8]; (repeat' first|(with_reducible first|exact bw1|assumption|refine bw2 ?_ _|refine bw3 ?_ ?_ _|refine bw4 ?_|refine bw5 ?_ ?_ _|refine bw6 (by assumption) ?_ ?_|exact And.left (by assumption))|go_size)
 have K6 := Lib.hid (K6.out.below hb8)
 have HB := Lib.hid (HB.out.trans (hb8.mono HB.out.size))
 clear hb8 hw8
 obtain ⟨c6, c6_1, c6_2, c6_3, c6_4, c6_5, c6_6, c6_7, c6_8, l6⟩ := blkc9 K6.out
 by_cases h0 : E = 0
 ·subst h0
  obtain ⟨n, k, rfl, rfl, hcw⟩ := HSA.out (by trivial)
  have HCW := Lib.hid (hcw w8 HB.out)
  have HVN := Lib.hid (show V = CT n k from HV.out.trans (by rw [if_neg (by simp), Int.toNat_natCast, Int.toNat_natCast]))
  clear hcw HSA HV
  go_wp2_with fail
  refine HCW.out.mono ?_
  rintro e9 w9 ⟨rfl, hb9⟩
  go_wp2
  go_ret
  exact ⟨ret_int (by rw [HVN.out]), HB.out.trans (hb9.mono HB.out.size)⟩
 ·have e1 := bne_iff_ne.2 h0
  have HVN := Lib.hid (show V = E from HV.out.trans (if_pos h0))
  clear h0 HSA HV
  go_wp2
  go_ret
  exact ⟨ret_int (by rw [HVN.out]), HB.out⟩
theorem open6_any (m : Mac) (l : Lim) (ab ag : Option Addr) (nb cb ng cg : Nat) (w : World) (hb : BrR w ab nb m.br) (hg : GrR w ag ng m.gs) :
    Calls Tryz.prog 132 #[.agg #[.slice ab nb cb, .int .i64 m.st, .slice ag ng cg], .agg #[.int .i64 l.volt, .int .i64 l.lo, .int .i64 l.hi, .int .i64 l.circ, .int .i64 l.brk, .int .i64 l.ret]] w
     fun e' w' => e' = .returned (.tuple #[.agg #[.slice ab nb cb, .int .i64 m.st, .slice ag ng cg, .int .i64 l.volt, .int .i64 l.lo, .int .i64 l.hi, .int .i64 l.circ, .int .i64 l.brk, .int .i64 l.ret], .int .i64 (firstErr [(macE m).2, limE l])]) ∧ Below w.heap.size w w' :=
 open_any m l ab ag nb cb ng cg w hb hg
end Go.Proofs.YtidboecjllaofaaGreat

/- The reference's voltage and currents as quotients, in plain words. -/
namespace Go.Proofs.YtidboecjllaofaaGreat
set_option linter.unusedVariables false
theorem res_cases {r : Int} (h0 : 1 ≤ r) (h1 : r ≤ 10) : (2520 : Int) = 2520 / r * r := by
 have : r = 1 ∨ r = 2 ∨ r = 3 ∨ r = 4 ∨ r = 5 ∨ r = 6 ∨ r = 7 ∨ r = 8 ∨ r = 9 ∨ r = 10 := by omega
 rcases this with h | h | h | h | h | h | h | h | h | h <;> rw [h] <;> decide
theorem divInt_1 (n : Int) : Rat.divInt n 1 = (n : Rat) := by rw [Rat.divInt_eq_div]; grind
theorem castZ {n : Int} (h : n ≠ 0) : (n : Rat) ≠ 0 := by
 intro e
 exact h (Rat.intCast_inj.1 (e.trans Rat.intCast_zero.symm))
theorem divInt_quot {a b c d : Int} (hb : b ≠ 0) (hc : c ≠ 0) (hd : d ≠ 0) : Rat.divInt a b / Rat.divInt c d = Rat.divInt (a * d) (b * c) := by
 have h1 := castZ hb
 have h2 := castZ hc
 have h3 := castZ hd
 rw [Rat.divInt_eq_div, Rat.divInt_eq_div, Rat.divInt_eq_div, Rat.intCast_mul, Rat.intCast_mul]
 grind
def outQ (m : Mac) (l : Lim) (s : Nat) (load : Int) : Rat := Rat.divInt (outT m l s load).1 (outT m l s load).2
def sumQ (m : Mac) (l : Lim) (load : Int) (L : List Nat) : Rat := Rat.divInt (numL m l load L) 2520
def conQ (m : Mac) (L : List Nat) : Rat := Rat.divInt (denL m L) 2520
def zQ (m : Mac) (l : Lim) (s : Nat) (load : Int) (k : Nat) : Rat := Rat.divInt (zcur m l s load k) (comD m l s load)
def rstQ (m : Mac) (l : Lim) (load N D : Int) (L : List Nat) : Rat := Rat.divInt (rstZ m l load N D L) (2520 * D)
theorem sumQ_nil (m : Mac) (l : Lim) (load : Int) : sumQ m l load [] = ((-load : Int) : Rat) := by
 unfold sumQ numL
 rw [List.foldl_nil, ← divInt_1, Rat.divInt_eq_divInt_iff (by decide) (by decide)]
 omega
theorem conQ_nil (m : Mac) : conQ m [] = ((0 : Int) : Rat) := by
 unfold conQ denL
 rw [List.foldl_nil, ← divInt_1, Rat.divInt_eq_divInt_iff (by decide) (by decide)]
 omega
theorem sumQ_snoc {m : Mac} {k : Nat} (l : Lim) (load : Int) (L : List Nat) (hr : 1 ≤ (bAt m.br k).res) (hr1 : (bAt m.br k).res ≤ 10) : sumQ m l load (L ++ [k]) = sumQ m l load L + Rat.divInt (volA m l k) (bAt m.br k).res := by
 unfold sumQ
 rw [numL_snoc, Rat.divInt_add_divInt _ _ (by decide) (by omega), Rat.divInt_eq_divInt_iff (by decide) (by omega)]
 have e := res_cases hr hr1
 generalize 2520 / (bAt m.br k).res = q at *
 generalize (bAt m.br k).res = r at *
 generalize numL m l load L = A at *
 generalize volA m l k = v at *
 grind
theorem conQ_snoc {m : Mac} {k : Nat} (L : List Nat) (hr : 1 ≤ (bAt m.br k).res) (hr1 : (bAt m.br k).res ≤ 10) : conQ m (L ++ [k]) = conQ m L + Rat.divInt 1 (bAt m.br k).res := by
 unfold conQ
 rw [denL_snoc, Rat.divInt_add_divInt _ _ (by decide) (by omega), Rat.divInt_eq_divInt_iff (by decide) (by omega)]
 have e := res_cases hr hr1
 generalize 2520 / (bAt m.br k).res = q at *
 generalize (bAt m.br k).res = r at *
 generalize denL m L = A at *
 grind
theorem outQ_res {m : Mac} {l : Lim} {s : Nat} {load : Int} {k : Nat} (h : (cloU s 6).find? (isRes m) = some k) : outQ m l s load = ((volA m l k : Int) : Rat) := by
 unfold outQ outT
 rw [h]
 exact divInt_1 _
theorem frR_divInt {q : Rat} : Rat.divInt (frR q).1 (frR q).2 = q := by unfold frR; exact Rat.num_divInt_den q
theorem outQ_div {m : Mac} {l : Lim} {s : Nat} {load : Int} (hD : 0 < denL m (cloU s 6)) (h : (cloU s 6).find? (isRes m) = none) : sumQ m l load (cloU s 6) / conQ m (cloU s 6) = outQ m l s load := by
 unfold outQ outT sumQ conQ
 rw [h]
 simp only
 rw [low_rat hD, frR_divInt, divInt_quot (by decide) (by omega) (by decide), Rat.divInt_eq_divInt_iff (by omega) (by omega)]
 grind
theorem conQ_ne {m : Mac} {L : List Nat} (hD : 0 < denL m L) : conQ m L ≠ 0 := by
 unfold conQ
 intro h
 have : (Rat.divInt (denL m L) 2520) = Rat.divInt 0 1 := by rw [h]; rfl
 rw [Rat.divInt_eq_divInt_iff (by decide) (by decide)] at this
 omega
theorem frR_low {a b : Int} (hb : 0 < b) : frR (Rat.divInt a b) = low a b := (low_rat hb).symm
theorem frR_z {m : Mac} {l : Lim} {s : Nat} {load : Int} (h : ElV m l s load) {k : Nat} (hk : k < m.br.length) : frR (zQ m l s load k) = (curT m l s load).getD k (0, 0) := by
 unfold zQ
 rw [curT_z h hk, frR_low h.com.1]
theorem zQ_res {m : Mac} {l : Lim} {s : Nat} {load : Int} {k : Nat} (hD : 0 < (outT m l s load).2) (hc : k ∈ cloU s 6) (hn : isRes m k = false) (hr : 1 ≤ (bAt m.br k).res) (hr1 : (bAt m.br k).res ≤ 10) :
    (((volA m l k : Int) : Rat) - outQ m l s load) / (((bAt m.br k).res : Int) : Rat) = zQ m l s load k := by
 unfold zQ zcur comD outQ ovr
 rw [if_pos ⟨hc, hn⟩]
 have e := res_cases hr hr1
 rw [← divInt_1 (volA m l k), ← divInt_1 (bAt m.br k).res, Rat.divInt_sub_divInt _ _ (by decide) (by omega), divInt_quot (by omega) (by omega) (by decide), Rat.divInt_eq_divInt_iff (by
  have := Int.mul_pos hD (show 0 < (bAt m.br k).res by omega)
  have e3 : 1 * (outT m l s load).2 * (bAt m.br k).res = (outT m l s load).2 * (bAt m.br k).res := by rw [Int.one_mul]
  omega) (by omega)]
 generalize 2520 / (bAt m.br k).res = q at *
 generalize (bAt m.br k).res = r at *
 generalize volA m l k = v at *
 generalize (outT m l s load).1 = N at *
 generalize (outT m l s load).2 = D at *
 have e2 : 2520 * D = q * r * D := by rw [← e]
 grind
theorem rstQ_nil {m : Mac} {l : Lim} {load N D : Int} (hD : 0 < D) : rstQ m l load N D [] = ((load : Int) : Rat) := by
 unfold rstQ rstZ
 rw [List.foldl_nil, ← divInt_1, Rat.divInt_eq_divInt_iff (by omega) (by decide)]
 omega
theorem rstQ_res {m : Mac} {l : Lim} {load N D : Int} {L : List Nat} {k : Nat} (h : isRes m k = true) : rstQ m l load N D (L ++ [k]) = rstQ m l load N D L := by
 unfold rstQ; rw [rstZ_snoc, if_pos h]
theorem rstQ_snoc {m : Mac} {l : Lim} {s : Nat} {load : Int} {L : List Nat} {k : Nat} (hD : 0 < (outT m l s load).2) (hc : k ∈ cloU s 6) (h : isRes m k = false) :
    rstQ m l load (outT m l s load).1 (outT m l s load).2 L - zQ m l s load k = rstQ m l load (outT m l s load).1 (outT m l s load).2 (L ++ [k]) := by
 unfold rstQ zQ zcur comD
 rw [rstZ_snoc, if_neg (show ¬ isRes m k = true by rw [h]; decide), if_pos (And.intro hc h), Rat.divInt_sub_divInt _ _ (by omega) (by omega), Rat.divInt_eq_divInt_iff (by
  have := Int.mul_pos (show 0 < 2520 * (outT m l s load).2 by omega) (show 0 < 2520 * (outT m l s load).2 by omega)
  omega) (by omega)]
 grind
theorem zQ_dir {m : Mac} {l : Lim} {s : Nat} {load : Int} {k : Nat} (hn : isRes m k = true) (hd : (k : Int) = dirD m (cloU s 6)) : zQ m l s load k = rstQ m l load (outT m l s load).1 (outT m l s load).2 (cloU s 6) := by
 unfold zQ zcur rstQ comD
 rw [if_neg (by rw [hn]; simp), if_pos hd]
theorem zQ_off {m : Mac} {l : Lim} {s : Nat} {load : Int} {k : Nat} (hn : ¬ (k ∈ cloU s 6 ∧ isRes m k = false)) (hd : (k : Int) ≠ dirD m (cloU s 6)) : zQ m l s load k = ((0 : Int) : Rat) := by
 unfold zQ zcur
 rw [if_neg hn, if_neg hd, Rat.zero_divInt]
 rfl
def cirQ (m : Mac) (l : Lim) (s k : Nat) : Rat := Rat.divInt (cirZ m l s k) (comD m l s 0)
theorem cirQ_zero (m : Mac) (l : Lim) (s : Nat) : cirQ m l s 0 = ((0 : Int) : Rat) := by
 unfold cirQ cirZ; rw [Rat.zero_divInt]; rfl
theorem cirQ_skip {m : Mac} {l : Lim} {s k : Nat} (h : (bAt m.br k).tap ≠ 1) : cirQ m l s (k + 1) = cirQ m l s k := by
 unfold cirQ
 rw [show cirZ m l s (k + 1) = cirZ m l s k from if_neg h]
theorem cirQ_plus {m : Mac} {l : Lim} {s k : Nat} (hD : 0 < comD m l s 0) (ht : (bAt m.br k).tap = 1) : cirQ m l s k + zQ m l s 0 k = cirQ m l s (k + 1) := by
 unfold cirQ zQ
 rw [show cirZ m l s (k + 1) = cirZ m l s k + zcur m l s 0 k from if_pos ht, Rat.divInt_add_divInt _ _ (by omega) (by omega), Rat.divInt_eq_divInt_iff (by
  have := Int.mul_pos hD hD
  omega) (by omega)]
 grind
end Go.Proofs.YtidboecjllaofaaGreat
