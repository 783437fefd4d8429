import Derived.Test.YtidboecjllaofaaGreatTFai
import Derived.Test.YtidboecjllaofaaGreatUPlain0
import Derived.Test.YtidboecjllaofaaGreatUTCirP
import Derived.Test.YtidboecjllaofaaGreatUTCur
import Derived.Test.YtidboecjllaofaaGreatUTElc
/- The exported functions of currents, failures and invariants: the program. -/
namespace Go.Proofs.YtidboecjllaofaaGreat
open Go.RowKit Go.Shelf
set_option linter.unusedVariables false
set_option linter.unusedSimpArgs false
set_option maxHeartbeats 1000000 in
set_option maxRecDepth 100000 in
theorem currentsIn_any (m : Mac) (l : Lim) (s load : Int) (ab ag : Option Addr) (nb cb ng cg : Nat) (w : World) (hb : BrR w ab nb m.br) (hg : GrR w ag ng m.gs) (h8 : nb ≤ 8) :
    Calls Tryz.prog 25 #[.agg #[.slice ab nb cb, .int .i64 m.st, .slice ag ng cg], .agg #[.int .i64 l.volt, .int .i64 l.lo, .int .i64 l.hi, .int .i64 l.circ, .int .i64 l.brk, .int .i64 l.ret], .int .i64 s, .int .i64 load] w
     fun e' w' => ∃ a' n' c', e' = .returned (.tuple #[.slice a' n' c', .int .i64 (eleE m l s load)]) ∧ Below w.heap.size w w' ∧ PairsR w' a' n' (if eleE m l s load = 0 then curT m l s.toNat load else []) := by
 have HE := Lib.hid (fun (W : World) (hbw : Below w.heap.size w W) => electric_any m l s load ab ag nb cb ng cg W (hb.below hbw) (hg.below hbw) h8)
 have HCU := Lib.hid (fun (h : eleE m l s load = 0) => show ∃ n : Nat, s = (n : Int) ∧ ∀ (W : World), Below w.heap.size w W → Calls Tryz.prog 99 #[.agg #[.slice ab nb cb, .int .i64 m.st, .slice ag ng cg, .int .i64 l.volt, .int .i64 l.lo, .int .i64 l.hi, .int .i64 l.circ, .int .i64 l.brk, .int .i64 l.ret], .int .i64 (n : Int), .int .i64 load] W (fun e' w' => ∃ g, e' = .returned (.slice (some ⟨g, 0, none⟩) nb nb) ∧ W.heap.size ≤ g ∧ w'.heap[g]? = some (.cells (pcells (curT m l n load)).toArray 58) ∧ Below W.heap.size W w') from by
  unfold eleE at h
  split at h
  ·rename_i h1; exact absurd h h1
  ·rename_i h1
   have h1 := Decidable.not_not.1 h1
   obtain ⟨hm, hl, ⟨n, rfl, hn⟩, hd⟩ := eleZ_zero h1
   rw [Int.toNat_natCast] at h
   have hv := ElV.of h1 h
   exact ⟨n, rfl, fun W hbw => currents_any m l n load ab ag nb cb ng cg W hm (hb.below hbw) hv.hl hv.hd (by rw [← hb.len]; exact hn) hv.h0⟩)
 have HLN := Lib.hid (fun (n : Nat) => show (curT m l n load).length = nb by rw [curT_len, hb.len])
 obtain ⟨L, hL⟩ : ∃ L, L = if eleE m l s load = 0 then curT m l s.toNat load else [] := ⟨_, rfl⟩
 have HL := Lib.hid hL
 rw [← hL]
 clear hL
 generalize eleE m l s load = E at *
 have hcu : ∀ n, curT m l n load = curT m l n load := fun _ => rfl
 generalize hCT : (fun n => curT m l n load) = CT at *
 have HCT := Lib.hid (fun n => (congrFun hCT n : curT m l n load = CT n))
 obtain ⟨vo, lo, hi, ci, br, re⟩ := l
 obtain ⟨st, hst⟩ : ∃ x, x = m.st := ⟨_, rfl⟩
 rw [← hst] at HE HCU ⊢
 simp only at HE HCU ⊢
 clear hb hg hst hcu hCT
 go_enter Tryz.func25, Tryz.ntmps25
 go_wp2_with fail
 refine (HE.out _ (by (repeat' first|(with_reducible first|exact bw1|assumption|refine bw2 ?_ _|refine bw3 ?_ ?_ _|refine bw4 ?_|refine bw5 ?_ ?_ _|refine bw6 (by assumption) ?_ ?_|exact And.left (by assumption))|go_size))).mono ?_
 rintro e5 w5 ⟨rfl, hb5⟩
 have HB5 := Lib.hid (show Below w.heap.size w w5 by (repeat' first|(with_reducible first|exact bw1|assumption|refine bw2 ?_ _|refine bw3 ?_ ?_ _|refine bw4 ?_|refine bw5 ?_ ?_ _|refine bw6 (by assumption) ?_ ?_|exact And.left (by assumption))|go_size))
 clear hb5 HE
 by_cases h0 : E = 0
 ·subst h0
  obtain ⟨n, rfl, hcw⟩ := HCU.out rfl
  obtain ⟨w6, hW⟩ : ∃ w6, w6 = w5.alloc (Obj.cells #[.slice ab nb cb, .int .i64 st, .slice ag ng cg, .int .i64 vo, .int .i64 lo, .int .i64 hi, .int .i64 ci, .int .i64 br, .int .i64 re] 164) := ⟨_, rfl⟩
  have hb6 : Below w5.heap.size w5 w6 := by rw [hW]; (repeat' first|(with_reducible first|exact bw1|assumption|refine bw2 ?_ _|refine bw3 ?_ ?_ _|refine bw4 ?_|refine bw5 ?_ ?_ _|refine bw6 (by assumption) ?_ ?_|exact And.left (by assumption))|go_size)
  have k6 : BlkR w6 w5.heap.size (.cells #[.slice ab nb cb, .int .i64 st, .slice ag ng cg, .int .i64 vo, .int .i64 lo, .int .i64 hi, .int .i64 ci, .int .i64 br, .int .i64 re] 164) := by show w6.heap[w5.heap.size]? = _; rw [hW]; exact heap_alloc_new _ _
  have HB6 := Lib.hid (HB5.out.trans (hb6.mono HB5.out.size))
  obtain ⟨X6, hX6⟩ : ∃ X, X = w5.heap.size := ⟨_, rfl⟩
  rw [← hX6] at k6
  have K6 := Lib.hid k6
  obtain ⟨c6, c6_1, c6_2, c6_3, c6_4, c6_5, c6_6, c6_7, c6_8, l6⟩ := blkc9 K6.out
  clear hb6 k6
  have HCW := Lib.hid (hcw w6 HB6.out)
  have HLX := Lib.hid (HL.out.trans (by rw [if_pos rfl, Int.toNat_natCast]))
  clear hcw HCU HL
  go_wp2_with fail
  rw [← hW]
  simp only [← hX6]
  clear hW hX6
  refine HCW.out.mono ?_
  rintro e7 w7 ⟨g, rfl, hg, hgr, hb7⟩
  have HK := Lib.hid (And.intro hgr hb7)
  clear hg hgr hb7
  go_wp2
  go_ret2
  refine ⟨some ⟨g, 0, none⟩, nb, nb, rfl, HB6.out.trans (HK.out.2.mono HB6.out.size), ?_⟩
  rw [HLX.out]
  have hln := HLN.out n
  refine ⟨by rw [pcells_length, hln], by unfold maxLen; omega, fun _ => ⟨g, 0, rfl, (Array.getElem?_eq_some_iff.1 HK.out.1).1, fun i u hu => ?_⟩⟩
  rw [Nat.zero_add, cell_of_row _ _ _ _ _ _ HK.out.1, List.getElem?_toArray]
  exact hu
 ·have e1 := bne_iff_ne.2 h0
  have HLX := Lib.hid (HL.out.trans (if_neg h0))
  clear h0 HCU HL
  go_wp2
  go_ret2
  exact ⟨none, 0, 0, rfl, HB5.out.alloc HB5.out.size _, by rw [HLX.out]; exact PairsR.nil _ _⟩
def opnE (m : Mac) (l : Lim) : Int := firstErr [(macE m).2, limE l]
theorem opnE_zero {m : Mac} {l : Lim} (h : opnE m l = 0) : MacV m ∧ limE l = 0 := by
 unfold opnE at h
 rw [firstErr_cons, firstErr_cons] at h
 exact ⟨(macE_zero h.1).2, h.2.1⟩
def failE (m : Mac) (l : Lim) : Int := if opnE m l ≠ 0 then opnE m l else unl (faiV m l).isSome 12
def failL (m : Mac) (l : Lim) : List Nat := if opnE m l ≠ 0 then [] else (faiV m l).getD []
def invE (m : Mac) (l : Lim) : Int := if opnE m l ≠ 0 then opnE m l else unl (!(faiV m l).isSome) 12
def invL (m : Mac) (l : Lim) : List Nat := if invE m l ≠ 0 then [] else reaS m
set_option maxHeartbeats 1000000 in
set_option maxRecDepth 100000 in
theorem failureOf_any (m : Mac) (l : Lim) (ab ag : Option Addr) (nb cb ng cg : Nat) (w : World) (hb : BrR w ab nb m.br) (hg : GrR w ag ng m.gs) :
    Calls Tryz.prog 69 #[.agg #[.slice ab nb cb, .int .i64 m.st, .slice ag ng cg], .agg #[.int .i64 l.volt, .int .i64 l.lo, .int .i64 l.hi, .int .i64 l.circ, .int .i64 l.brk, .int .i64 l.ret]] w
     fun e' w' => ∃ a' n' c', e' = .returned (.tuple #[.slice a' n' c', .int .i64 (failE m l)]) ∧ Below w.heap.size w w' ∧ IntsR w' a' n' (nats (failL m l)) := by
 have HO := Lib.hid (fun (W : World) (hbw : Below w.heap.size w W) => open_any m l ab ag nb cb ng cg W (hb.below hbw) (hg.below hbw))
 have HFA := Lib.hid (fun (h : opnE m l = 0) (W : World) (hbw : Below w.heap.size w W) => failure_any m l ab ag nb cb ng cg W (opnE_zero h).1 (opnE_zero h).2 (hb.below hbw) (hg.below hbw))
 have hE1 : failE m l = if opnE m l ≠ 0 then opnE m l else unl (faiV m l).isSome 12 := rfl
 have hE2 : failL m l = if opnE m l ≠ 0 then [] else (faiV m l).getD [] := rfl
 rw [show firstErr [(macE m).2, limE l] = opnE m l from rfl] at HO
 generalize failE m l = V1 at *
 generalize failL m l = V2 at *
 generalize opnE m l = E at *
 generalize faiV m l = FV at *
 have HE1 := Lib.hid hE1
 have HE2 := Lib.hid hE2
 obtain ⟨vo, lo, hi, ci, br, re⟩ := l
 obtain ⟨st, hst⟩ : ∃ x, x = m.st := ⟨_, rfl⟩
 rw [← hst] at HO HFA ⊢
 simp only at HO HFA ⊢
 clear hb hg hst hE1 hE2
 go_enter Tryz.func69, Tryz.ntmps69
 go_wp2_with fail
 refine (HO.out _ (by (repeat' first|(with_reducible first|exact bw1|assumption|refine bw2 ?_ _|refine bw3 ?_ ?_ _|refine bw4 ?_|refine bw5 ?_ ?_ _|refine bw6 (by assumption) ?_ ?_|exact And.left (by assumption))|go_size))).mono ?_
 rintro e5 w5 ⟨rfl, hb5⟩
 have HB5 := Lib.hid (show Below w.heap.size w w5 by (repeat' first|(with_reducible first|exact bw1|assumption|refine bw2 ?_ _|refine bw3 ?_ ?_ _|refine bw4 ?_|refine bw5 ?_ ?_ _|refine bw6 (by assumption) ?_ ?_|exact And.left (by assumption))|go_size))
 clear hb5 HO
 by_cases h0 : E = 0
 ·subst h0
  obtain ⟨w6, hW⟩ : ∃ w6, w6 = w5.alloc (Obj.cells #[.slice ab nb cb, .int .i64 st, .slice ag ng cg, .int .i64 vo, .int .i64 lo, .int .i64 hi, .int .i64 ci, .int .i64 br, .int .i64 re] 164) := ⟨_, rfl⟩
  have hb6 : Below w5.heap.size w5 w6 := by rw [hW]; (repeat' first|(with_reducible first|exact bw1|assumption|refine bw2 ?_ _|refine bw3 ?_ ?_ _|refine bw4 ?_|refine bw5 ?_ ?_ _|refine bw6 (by assumption) ?_ ?_|exact And.left (by assumption))|go_size)
  have k6 : BlkR w6 w5.heap.size (.cells #[.slice ab nb cb, .int .i64 st, .slice ag ng cg, .int .i64 vo, .int .i64 lo, .int .i64 hi, .int .i64 ci, .int .i64 br, .int .i64 re] 164) := by show w6.heap[w5.heap.size]? = _; rw [hW]; exact heap_alloc_new _ _
  have HB6 := Lib.hid (HB5.out.trans (hb6.mono HB5.out.size))
  obtain ⟨X6, hX6⟩ : ∃ X, X = w5.heap.size := ⟨_, rfl⟩
  rw [← hX6] at k6
  have K6 := Lib.hid k6
  obtain ⟨c6, c6_1, c6_2, c6_3, c6_4, c6_5, c6_6, c6_7, c6_8, l6⟩ := blkc9 K6.out
  clear hb6 k6
  have HCW := Lib.hid (HFA.out rfl w6 HB6.out)
  have HV1 := Lib.hid (HE1.out.trans (if_neg (by simp)))
  have HV2 := Lib.hid (HE2.out.trans (if_neg (by simp)))
  clear HFA HE1 HE2
  go_wp2_with fail
  rw [← hW]
  simp only [← hX6]
  clear hW hX6
  refine HCW.out.mono ?_
  rintro e7 w7 ⟨a', n', c', rfl, hb7, hr⟩
  have HK := Lib.hid (And.intro hb7 hr)
  clear hb7 hr
  go_wp2_with fail
  refine (t_unless_any _ _ _).mono ?_
  rintro e8 w8 ⟨rfl, rfl⟩
  go_wp2
  go_ret2
  exact ⟨a', n', c', by first | (rw [HV1.out]; done) | (rw [HV1.out]; rfl), HB6.out.trans (HK.out.1.mono HB6.out.size), by rw [HV2.out]; exact HK.out.2⟩
 ·have e1 := bne_iff_ne.2 h0
  have HV1 := Lib.hid (HE1.out.trans (if_pos h0))
  have HV2 := Lib.hid (HE2.out.trans (if_pos h0))
  clear h0 HFA HE1 HE2
  go_wp2
  go_ret2
  exact ⟨none, 0, 0, by first | (rw [HV1.out]; done) | (rw [HV1.out]; rfl), HB5.out.alloc HB5.out.size _, by rw [HV2.out]; exact IntsR.nil _ _⟩
set_option maxHeartbeats 1000000 in
set_option maxRecDepth 100000 in
theorem invariantOf_any (m : Mac) (l : Lim) (ab ag : Option Addr) (nb cb ng cg : Nat) (w : World) (hb : BrR w ab nb m.br) (hg : GrR w ag ng m.gs) :
    Calls Tryz.prog 70 #[.agg #[.slice ab nb cb, .int .i64 m.st, .slice ag ng cg], .agg #[.int .i64 l.volt, .int .i64 l.lo, .int .i64 l.hi, .int .i64 l.circ, .int .i64 l.brk, .int .i64 l.ret]] w
     fun e' w' => ∃ a' n' c', e' = .returned (.tuple #[.slice a' n' c', .int .i64 (invE m l)]) ∧ Below w.heap.size w w' ∧ IntsR w' a' n' (nats (invL m l)) := by
 have HO := Lib.hid (fun (W : World) (hbw : Below w.heap.size w W) => open_any m l ab ag nb cb ng cg W (hb.below hbw) (hg.below hbw))
 have HFA := Lib.hid (fun (h : opnE m l = 0) (W : World) (hbw : Below w.heap.size w W) => failure_any m l ab ag nb cb ng cg W (opnE_zero h).1 (opnE_zero h).2 (hb.below hbw) (hg.below hbw))
 have HRE := Lib.hid (fun (h : opnE m l = 0) (W : World) (hbw : Below w.heap.size w W) => reachable_any m ab ag nb cb ng cg W (opnE_zero h).1 hb.len (hg.below hbw))
 have hE1 : invE m l = if opnE m l ≠ 0 then opnE m l else unl (!(faiV m l).isSome) 12 := rfl
 have hE2 : invL m l = if invE m l ≠ 0 then [] else reaS m := rfl
 rw [show firstErr [(macE m).2, limE l] = opnE m l from rfl] at HO
 generalize invE m l = V1 at *
 generalize invL m l = V2 at *
 generalize opnE m l = E at *
 generalize faiV m l = FV at *
 have HE1 := Lib.hid hE1
 have HE2 := Lib.hid hE2
 obtain ⟨vo, lo, hi, ci, br, re⟩ := l
 obtain ⟨st, hst⟩ : ∃ x, x = m.st := ⟨_, rfl⟩
 rw [← hst] at HO HFA HRE ⊢
 simp only at HO HFA ⊢
 clear hb hg hst hE1 hE2
 go_enter Tryz.func70, Tryz.ntmps70
 go_wp2_with fail
 refine (HO.out _ (by (repeat' first|(with_reducible first|exact bw1|assumption|refine bw2 ?_ _|refine bw3 ?_ ?_ _|refine bw4 ?_|refine bw5 ?_ ?_ _|refine bw6 (by assumption) ?_ ?_|exact And.left (by assumption))|go_size))).mono ?_
 rintro e5 w5 ⟨rfl, hb5⟩
 have HB5 := Lib.hid (show Below w.heap.size w w5 by (repeat' first|(with_reducible first|exact bw1|assumption|refine bw2 ?_ _|refine bw3 ?_ ?_ _|refine bw4 ?_|refine bw5 ?_ ?_ _|refine bw6 (by assumption) ?_ ?_|exact And.left (by assumption))|go_size))
 clear hb5 HO
 by_cases h0 : E = 0
 ·subst h0
  obtain ⟨w6, hW⟩ : ∃ w6, w6 = w5.alloc (Obj.cells #[.slice ab nb cb, .int .i64 st, .slice ag ng cg, .int .i64 vo, .int .i64 lo, .int .i64 hi, .int .i64 ci, .int .i64 br, .int .i64 re] 164) := ⟨_, rfl⟩
  have hb6 : Below w5.heap.size w5 w6 := by rw [hW]; (repeat' first|(with_reducible first|exact bw1|assumption|refine bw2 ?_ _|refine bw3 ?_ ?_ _|refine bw4 ?_|refine bw5 ?_ ?_ _|refine bw6 (by assumption) ?_ ?_|exact And.left (by assumption))|go_size)
  have k6 : BlkR w6 w5.heap.size (.cells #[.slice ab nb cb, .int .i64 st, .slice ag ng cg, .int .i64 vo, .int .i64 lo, .int .i64 hi, .int .i64 ci, .int .i64 br, .int .i64 re] 164) := by show w6.heap[w5.heap.size]? = _; rw [hW]; exact heap_alloc_new _ _
  have HB6 := Lib.hid (HB5.out.trans (hb6.mono HB5.out.size))
  obtain ⟨X6, hX6⟩ : ∃ X, X = w5.heap.size := ⟨_, rfl⟩
  rw [← hX6] at k6
  have K6 := Lib.hid k6
  obtain ⟨c6, c6_1, c6_2, c6_3, c6_4, c6_5, c6_6, c6_7, c6_8, l6⟩ := blkc9 K6.out
  clear hb6 k6
  have HCW := Lib.hid (HFA.out rfl w6 HB6.out)
  have HV1 := Lib.hid (HE1.out.trans (if_neg (by simp)))
  have HRX := Lib.hid (HRE.out rfl)
  clear HFA HE1 HRE
  generalize FV.getD [] = FL at *
  go_wp2_with fail
  rw [← hW]
  simp only [← hX6]
  clear hW hX6
  refine HCW.out.mono ?_
  rintro e7 w7 ⟨a', n', c', rfl, hb7, hr⟩
  have HB7 := Lib.hid (HB6.out.trans (hb7.mono HB6.out.size))
  have K6 := Lib.hid (K6.out.below hb7)
  clear hb7 hr c6 c6_1 c6_2 c6_3 c6_4 c6_5 c6_6 c6_7 c6_8 l6
  obtain ⟨c6, c6_1, c6_2, c6_3, c6_4, c6_5, c6_6, c6_7, c6_8, l6⟩ := blkc9 K6.out
  have HRW := Lib.hid (HRX.out w7 HB7.out)
  generalize FV.isSome = FB at *
  cases FB
  ·have HV2 := Lib.hid (show V2 = reaS m from HE2.out.trans (by rw [HV1.out]; exact if_neg (by decide)))
   have HV3 := Lib.hid (show V1 = 0 from HV1.out)
   go_wp2_with fail
   refine HRW.out.mono ?_
   rintro e8 w8 ⟨a2, n2, c2, rfl, hb8, hr8⟩
   have HK := Lib.hid (And.intro hb8 hr8)
   clear hb8 hr8
   go_wp2
   go_ret2
   exact ⟨a2, n2, c2, by first | (rw [HV3.out]; done) | (rw [HV3.out]; rfl), HB7.out.trans (HK.out.1.mono HB7.out.size), by rw [HV2.out]; exact HK.out.2⟩
  ·have HV2 := Lib.hid (show V2 = [] from HE2.out.trans (by rw [HV1.out]; exact if_pos (by decide)))
   have HV3 := Lib.hid (show V1 = 12 from HV1.out)
   go_wp2
   go_ret2
   exact ⟨none, 0, 0, by first | (rw [HV3.out]; done) | (rw [HV3.out]; rfl), HB7.out, by rw [HV2.out]; exact IntsR.nil _ _⟩
 ·have e1 := bne_iff_ne.2 h0
  have HV1 := Lib.hid (HE1.out.trans (if_pos h0))
  have HV2 := Lib.hid (show V2 = [] from HE2.out.trans (by rw [HV1.out]; exact if_pos h0))
  clear h0 HFA HE1 HE2 HRE
  go_wp2
  go_ret2
  exact ⟨none, 0, 0, by first | (rw [HV1.out]; done) | (rw [HV1.out]; rfl), HB5.out.alloc HB5.out.size _, by rw [HV2.out]; exact IntsR.nil _ _⟩
end Go.Proofs.YtidboecjllaofaaGreat

/- The exported functions of states, changes and breaks: the program. -/
namespace Go.Proofs.YtidboecjllaofaaGreat
open Go.RowKit Go.Shelf
set_option linter.unusedVariables false
set_option linter.unusedSimpArgs false
theorem ElV.of' {m : Mac} {l : Lim} {s load : Int} (h : eleE m l s load = 0) : ∃ n : Nat, s = (n : Int) ∧ n < 2 ^ m.br.length ∧ ElV m l n load := by
 unfold eleE at h
 split at h
 ·rename_i h1; exact absurd h h1
 ·rename_i h1
  have h1 := Decidable.not_not.1 h1
  obtain ⟨hm, hl, ⟨n, rfl, hn⟩, hd⟩ := eleZ_zero h1
  rw [Int.toNat_natCast] at h
  exact ⟨n, rfl, hn, ElV.of h1 h⟩
theorem blk_put2 {w : World} {X t : Nat} {x0 x1 : Value} (h : w.heap[X]? = some (.cells #[x0, x1] t)) (v0 v1 : Value) :
    ((w.setCell ⟨X, 0, none⟩ v0).setCell ⟨X, 1, none⟩ v1).heap[X]? = some (.cells #[v0, v1] t) := by
 have h0 : (w.setCell ⟨X, 0, none⟩ v0).heap[X]? = some (.cells #[v0, x1] t) := by rw [blk_set h 0 v0]; rfl
 have h1 : ((w.setCell ⟨X, 0, none⟩ v0).setCell ⟨X, 1, none⟩ v1).heap[X]? = some (.cells #[v0, v1] t) := by rw [blk_set h0 1 v1]; rfl
 exact h1
def oinV (m : Mac) (l : Lim) (s load : Int) : Int × Int := if eleE m l s load = 0 then outT m l s.toNat load else (0, 0)
set_option maxHeartbeats 1000000 in
set_option maxRecDepth 100000 in
theorem outputIn_any (m : Mac) (l : Lim) (s load : Int) (ab ag : Option Addr) (nb cb ng cg : Nat) (w : World) (hb : BrR w ab nb m.br) (hg : GrR w ag ng m.gs) (h8 : nb ≤ 8) :
    Calls Tryz.prog 27 #[.agg #[.slice ab nb cb, .int .i64 m.st, .slice ag ng cg], .agg #[.int .i64 l.volt, .int .i64 l.lo, .int .i64 l.hi, .int .i64 l.circ, .int .i64 l.brk, .int .i64 l.ret], .int .i64 s, .int .i64 load] w
     fun e' w' => e' = .returned (.tuple #[.agg #[.int .i64 (oinV m l s load).1, .int .i64 (oinV m l s load).2], .int .i64 (eleE m l s load)]) ∧ Below w.heap.size w w' := by
 have HE := Lib.hid (fun (W : World) (hbw : Below w.heap.size w W) => electric_any m l s load ab ag nb cb ng cg W (hb.below hbw) (hg.below hbw) h8)
 have HCU := Lib.hid (fun (h : eleE m l s load = 0) => show ∃ n : Nat, s = (n : Int) ∧ ∀ (W : World), Below w.heap.size w W → Calls Tryz.prog 100 #[.agg #[.slice ab nb cb, .int .i64 m.st, .slice ag ng cg, .int .i64 l.volt, .int .i64 l.lo, .int .i64 l.hi, .int .i64 l.circ, .int .i64 l.brk, .int .i64 l.ret], .int .i64 (n : Int), .int .i64 load] W (fun e' w' => e' = .returned (.agg #[.int .i64 (outT m l n load).1, .int .i64 (outT m l n load).2]) ∧ Below W.heap.size W w') from by
  obtain ⟨n, rfl, hn, hv⟩ := ElV.of' h
  exact ⟨n, rfl, fun W hbw => output_any m l n load ab ag nb cb ng cg W hv.hm (hb.below hbw) hv.hl hv.hd (by rw [← hb.len]; exact hn) hv.h0⟩)
 have hV : oinV m l s load = if eleE m l s load = 0 then outT m l s.toNat load else (0, 0) := rfl
 generalize oinV m l s load = V at *
 generalize eleE m l s load = E at *
 obtain ⟨CT, hCT⟩ : ∃ CT : Nat → Int × Int, ∀ n, CT n = outT m l n load := ⟨fun n => outT m l n load, fun _ => rfl⟩
 simp only [← hCT] at HCU hV
 have HV := Lib.hid hV
 obtain ⟨vo, lo, hi, ci, br, re⟩ := l
 obtain ⟨st, hst⟩ : ∃ x, x = m.st := ⟨_, rfl⟩
 rw [← hst] at HE HCU ⊢
 simp only at HE HCU ⊢
 clear hb hg hst hCT hV
 go_enter Tryz.func27, Tryz.ntmps27
 go_wp2_with fail
 refine (HE.out _ (by (repeat' first|(with_reducible first|exact bw1|assumption|refine bw2 ?_ _|refine bw3 ?_ ?_ _|refine bw4 ?_|refine bw5 ?_ ?_ _|refine bw6 (by assumption) ?_ ?_|exact And.left (by assumption))|go_size))).mono ?_
 rintro e5 w5 ⟨rfl, hb5⟩
 have k8 : BlkR w5 (w.heap.size + 1 + 1) (.cells #[.int .i64 0, .int .i64 0] 58) := by
  show w5.heap[w.heap.size + 1 + 1]? = _
  rw [hb5.block _ (by simp)]
  have := heap_alloc_new ((w.alloc (Obj.cells #[.slice ab nb cb, .int .i64 st, .slice ag ng cg] 45)).alloc (Obj.cells #[.int .i64 vo, .int .i64 lo, .int .i64 hi, .int .i64 ci, .int .i64 br, .int .i64 re] 47)) (Obj.cells #[.int .i64 0, .int .i64 0] 58)
  simpa using this
 have HB5 := Lib.hid (show Below w.heap.size w w5 by (repeat' first|(with_reducible first|exact bw1|assumption|refine bw2 ?_ _|refine bw3 ?_ ?_ _|refine bw4 ?_|refine bw5 ?_ ?_ _|refine bw6 (by assumption) ?_ ?_|exact And.left (by assumption))|go_size))
 obtain ⟨X8, hX8⟩ : ∃ X, X = w.heap.size + 1 + 1 := ⟨_, rfl⟩
 rw [← hX8] at k8
 simp only [← hX8]
 have hx8 : w.heap.size ≤ X8 := by omega
 have K8 := Lib.hid k8
 clear hb5 HE hX8 k8
 by_cases h0 : E = 0
 ·subst h0
  obtain ⟨n, rfl, hcw⟩ := HCU.out (by trivial)
  obtain ⟨w6, hW⟩ : ∃ w6, w6 = w5.alloc (Obj.cells #[.slice ab nb cb, .int .i64 st, .slice ag ng cg, .int .i64 vo, .int .i64 lo, .int .i64 hi, .int .i64 ci, .int .i64 br, .int .i64 re] 164) := ⟨_, rfl⟩
  have hb6 : Below w5.heap.size w5 w6 := by rw [hW]; (repeat' first|(with_reducible first|exact bw1|assumption|refine bw2 ?_ _|refine bw3 ?_ ?_ _|refine bw4 ?_|refine bw5 ?_ ?_ _|refine bw6 (by assumption) ?_ ?_|exact And.left (by assumption))|go_size)
  have k6 : BlkR w6 w5.heap.size (.cells #[.slice ab nb cb, .int .i64 st, .slice ag ng cg, .int .i64 vo, .int .i64 lo, .int .i64 hi, .int .i64 ci, .int .i64 br, .int .i64 re] 164) := by show w6.heap[w5.heap.size]? = _; rw [hW]; exact heap_alloc_new _ _
  have HB6 := Lib.hid (HB5.out.trans (hb6.mono HB5.out.size))
  obtain ⟨X6, hX6⟩ : ∃ X, X = w5.heap.size := ⟨_, rfl⟩
  rw [← hX6] at k6
  have K6 := Lib.hid k6
  obtain ⟨c6, c6_1, c6_2, c6_3, c6_4, c6_5, c6_6, c6_7, c6_8, l6⟩ := blkc9 K6.out
  have K8 := Lib.hid (K8.out.below hb6)
  have HCW := Lib.hid (hcw w6 HB6.out)
  have HVN := Lib.hid (HV.out.trans (by rw [if_pos rfl, Int.toNat_natCast]))
  clear hcw HCU HV hb6 k6
  go_wp2_with fail
  rw [← hW]
  simp only [← hX6]
  clear hW hX6
  refine HCW.out.mono ?_
  rintro e7 w7 ⟨rfl, hb7⟩
  have K8 := Lib.hid (K8.out.below hb7)
  have HB := Lib.hid (HB6.out.trans (hb7.mono HB6.out.size))
  clear hb7 c6 c6_1 c6_2 c6_3 c6_4 c6_5 c6_6 c6_7 c6_8 l6 K6 HB6 HCW
  obtain ⟨d80, d81, _⟩ := blkc2 K8.out
  have f80 := blk_fz K8.out 0
  have f81 := blk_fz K8.out 1
  have l8 := K8.out.lt
  go_wp2
  refine bodyPost_ret (v := .tuple #[.agg #[.int .i64 (CT n).1, .int .i64 (CT n).2], .int .i64 0]) ?_ rfl ⟨by rw [HVN.out], (HB.out.setCell hx8 _).setCell hx8 _⟩
  have kw := blk_put2 K8.out (.int .i64 (CT n).1) (.int .i64 (CT n).2)
  generalize World.setCell (World.setCell _ _ _) _ _ = wz at *
  obtain ⟨e80, e81, _⟩ := blkc2 kw
  simp [results, Tryz.results27, go_sem, e80, e81]
 ·have e1 := bne_iff_ne.2 h0
  have HVN := Lib.hid (HV.out.trans (if_neg h0))
  obtain ⟨d80, d81, _⟩ := blkc2 K8.out
  have f80 := blk_fz K8.out 0
  have f81 := blk_fz K8.out 1
  have l8 := K8.out.lt
  clear h0 HCU HV
  go_wp2
  refine bodyPost_ret (v := .tuple #[.agg #[.int .i64 0, .int .i64 0], .int .i64 E]) ?_ rfl ⟨by rw [HVN.out], Below.alloc ((HB5.out.setCell hx8 _).setCell hx8 _) (by simpa using HB5.out.size) _⟩
  have kx := blk_put2 K8.out (.int .i64 0) (.int .i64 0)
  have kw := (Below.heap_alloc _ (Obj.cells #[.slice ab nb cb, .int .i64 st, .slice ag ng cg, .int .i64 vo, .int .i64 lo, .int .i64 hi, .int .i64 ci, .int .i64 br, .int .i64 re] 164) _ (Array.getElem?_eq_some_iff.1 kx).1).trans kx
  generalize World.alloc _ _ = wz at *
  obtain ⟨e80, e81, _⟩ := blkc2 kw
  simp [results, Tryz.results27, go_sem, e80, e81]
end Go.Proofs.YtidboecjllaofaaGreat

/- The reference's voltage and currents as quotients, in plain words. -/
namespace Go.Proofs.YtidboecjllaofaaGreat
set_option linter.unusedVariables false
theorem res_cases {r : Int} (h0 : 1 ≤ r) (h1 : r ≤ 10) : (2520 : Int) = 2520 / r * r := by
 have : r = 1 ∨ r = 2 ∨ r = 3 ∨ r = 4 ∨ r = 5 ∨ r = 6 ∨ r = 7 ∨ r = 8 ∨ r = 9 ∨ r = 10 := by omega
 rcases this with h | h | h | h | h | h | h | h | h | h <;> rw [h] <;> decide
theorem divInt_1 (n : Int) : Rat.divInt n 1 = (n : Rat) := by rw [Rat.divInt_eq_div]; grind
theorem castZ {n : Int} (h : n ≠ 0) : (n : Rat) ≠ 0 := by
 intro e
 exact h (Rat.intCast_inj.1 (e.trans Rat.intCast_zero.symm))
theorem divInt_quot {a b c d : Int} (hb : b ≠ 0) (hc : c ≠ 0) (hd : d ≠ 0) : Rat.divInt a b / Rat.divInt c d = Rat.divInt (a * d) (b * c) := by
 have h1 := castZ hb
 have h2 := castZ hc
 have h3 := castZ hd
 rw [Rat.divInt_eq_div, Rat.divInt_eq_div, Rat.divInt_eq_div, Rat.intCast_mul, Rat.intCast_mul]
 grind
def outQ (m : Mac) (l : Lim) (s : Nat) (load : Int) : Rat := Rat.divInt (outT m l s load).1 (outT m l s load).2
def zQ (m : Mac) (l : Lim) (s : Nat) (load : Int) (k : Nat) : Rat := Rat.divInt (zcur m l s load k) (comD m l s load)
def rstQ (m : Mac) (l : Lim) (load N D : Int) (L : List Nat) : Rat := Rat.divInt (rstZ m l load N D L) (2520 * D)
theorem outQ_res {m : Mac} {l : Lim} {s : Nat} {load : Int} {k : Nat} (h : (cloU s 6).find? (isRes m) = some k) : outQ m l s load = ((volA m l k : Int) : Rat) := by
 unfold outQ outT
 rw [h]
 exact divInt_1 _
theorem frR_divInt {q : Rat} : Rat.divInt (frR q).1 (frR q).2 = q := by unfold frR; exact Rat.num_divInt_den q
theorem frR_out {m : Mac} {l : Lim} {s : Nat} {load : Int} (hD : 0 < denL m (cloU s 6)) : frR (outQ m l s load) = outT m l s load := by
 unfold outQ
 cases h : (cloU s 6).find? (isRes m) with
 | some k =>
  have e : outT m l s load = (volA m l k, 1) := by unfold outT; rw [h]
  rw [e]
  show frR (Rat.divInt (volA m l k) 1) = _
  rw [← low_rat (by decide), low_one']
 | none =>
  have e : outT m l s load = low (numL m l load (cloU s 6)) (denL m (cloU s 6)) := by unfold outT; rw [h]
  rw [e, low_rat hD, frR_divInt]
theorem frR_low {a b : Int} (hb : 0 < b) : frR (Rat.divInt a b) = low a b := (low_rat hb).symm
theorem frR_z {m : Mac} {l : Lim} {s : Nat} {load : Int} (h : ElV m l s load) {k : Nat} (hk : k < m.br.length) : frR (zQ m l s load k) = (curT m l s load).getD k (0, 0) := by
 unfold zQ
 rw [curT_z h hk, frR_low h.com.1]
theorem zQ_res {m : Mac} {l : Lim} {s : Nat} {load : Int} {k : Nat} (hD : 0 < (outT m l s load).2) (hc : k ∈ cloU s 6) (hn : isRes m k = false) (hr : 1 ≤ (bAt m.br k).res) (hr1 : (bAt m.br k).res ≤ 10) :
    (((volA m l k : Int) : Rat) - outQ m l s load) / (((bAt m.br k).res : Int) : Rat) = zQ m l s load k := by
 unfold zQ zcur comD outQ ovr
 rw [if_pos ⟨hc, hn⟩]
 have e := res_cases hr hr1
 rw [← divInt_1 (volA m l k), ← divInt_1 (bAt m.br k).res, Rat.divInt_sub_divInt _ _ (by decide) (by omega), divInt_quot (by omega) (by omega) (by decide), Rat.divInt_eq_divInt_iff (by
  have := Int.mul_pos hD (show 0 < (bAt m.br k).res by omega)
  have e3 : 1 * (outT m l s load).2 * (bAt m.br k).res = (outT m l s load).2 * (bAt m.br k).res := by rw [Int.one_mul]
  omega) (by omega)]
 generalize 2520 / (bAt m.br k).res = q at *
 generalize (bAt m.br k).res = r at *
 generalize volA m l k = v at *
 generalize (outT m l s load).1 = N at *
 generalize (outT m l s load).2 = D at *
 have e2 : 2520 * D = q * r * D := by rw [← e]
 grind
theorem rstQ_nil {m : Mac} {l : Lim} {load N D : Int} (hD : 0 < D) : rstQ m l load N D [] = ((load : Int) : Rat) := by
 unfold rstQ rstZ
 rw [List.foldl_nil, ← divInt_1, Rat.divInt_eq_divInt_iff (by omega) (by decide)]
 omega
theorem rstQ_res {m : Mac} {l : Lim} {load N D : Int} {L : List Nat} {k : Nat} (h : isRes m k = true) : rstQ m l load N D (L ++ [k]) = rstQ m l load N D L := by
 unfold rstQ; rw [rstZ_snoc, if_pos h]
theorem rstQ_snoc {m : Mac} {l : Lim} {s : Nat} {load : Int} {L : List Nat} {k : Nat} (hD : 0 < (outT m l s load).2) (hc : k ∈ cloU s 6) (h : isRes m k = false) :
    rstQ m l load (outT m l s load).1 (outT m l s load).2 L - zQ m l s load k = rstQ m l load (outT m l s load).1 (outT m l s load).2 (L ++ [k]) := by
 unfold rstQ zQ zcur comD
 rw [rstZ_snoc, if_neg (show ¬ isRes m k = true by rw [h]; decide), if_pos (And.intro hc h), Rat.divInt_sub_divInt _ _ (by omega) (by omega), Rat.divInt_eq_divInt_iff (by
  have := Int.mul_pos (show 0 < 2520 * (outT m l s load).2 by omega) (show 0 < 2520 * (outT m l s load).2 by omega)
  omega) (by omega)]
 grind
theorem zQ_dir {m : Mac} {l : Lim} {s : Nat} {load : Int} {k : Nat} (hn : isRes m k = true) (hd : (k : Int) = dirD m (cloU s 6)) : zQ m l s load k = rstQ m l load (outT m l s load).1 (outT m l s load).2 (cloU s 6) := by
 unfold zQ zcur rstQ comD
 rw [if_neg (by rw [hn]; simp), if_pos hd]
theorem zQ_off {m : Mac} {l : Lim} {s : Nat} {load : Int} {k : Nat} (hn : ¬ (k ∈ cloU s 6 ∧ isRes m k = false)) (hd : (k : Int) ≠ dirD m (cloU s 6)) : zQ m l s load k = ((0 : Int) : Rat) := by
 unfold zQ zcur
 rw [if_neg hn, if_neg hd, Rat.zero_divInt]
 rfl
end Go.Proofs.YtidboecjllaofaaGreat

/- The digits of base's wide numbers: digit, trimmed. -/
namespace Go.Proofs.YtidboecjllaofaaGreat
open Go.RowKit
set_option linter.unusedVariables false
theorem IntsR.take {w : World} {a : Option Addr} {n m : Nat} {l : List Int} (h : IntsR w a n l) (hm : m ≤ n) : IntsR w a m (l.take m) := by
 have hl := h.len
 refine ⟨by simp [icells]; omega, Nat.le_trans hm h.2.1, fun h0 => ?_⟩
 obtain ⟨b, o, rfl, hb, hc⟩ := h.2.2 (by omega)
 refine ⟨b, o, rfl, hb, fun i u hu => hc i u ?_⟩
 unfold icells at hu ⊢
 rw [List.map_take, List.getElem?_take] at hu
 split at hu
 ·exact hu
 ·simp at hu
theorem Top.take {l : List Int} {j : Nat} (hj : j < l.length) (h : l.getD j 0 ≠ 0) : Top (l.take (j + 1)) := by
 intro k hk
 rw [List.length_take, Nat.min_eq_left (by omega)] at hk
 obtain rfl : j = k := by omega
 rw [List.getD_eq_getElem?_getD, List.getElem?_take, if_pos (by omega), ← List.getD_eq_getElem?_getD]
 exact h
set_option maxRecDepth 100000 in
theorem digit_any (l : List Int) (a : Option Addr) (n c k : Nat) (w : World) (h : IntsR w a n l) :
    Calls Tryz.prog 193 #[.slice a n c, .int .i64 k] w fun e' w' => e' = .returned (.int .i64 (l.getD k 0)) ∧ w = w' := by
 have HL := Lib.hid h
 have hn := h.small
 clear h
 by_cases hlt : k < n
 ·obtain ⟨b, o, rfl, hb, hc⟩ := HL.out.addr (by omega)
  have hck := hc k hlt
  obtain ⟨x, hx⟩ : ∃ x, x = l.getD k 0 := ⟨_, rfl⟩
  rw [← hx] at hck ⊢
  clear hx hc HL
  go_enter Tryz.func193, Tryz.ntmps193
  go_wp2
  go_ret
  exact ⟨rfl, rfl⟩
 ·have hz : l.getD k 0 = 0 := by rw [List.getD_eq_getElem?_getD, List.getElem?_eq_none (by rw [HL.out.len]; omega)]; rfl
  rw [hz]
  clear hz HL
  go_enter Tryz.func193, Tryz.ntmps193
  go_wp2
  go_ret
  exact ⟨rfl, rfl⟩
set_option maxRecDepth 100000 in
theorem trimmed_any (l : List Int) (a : Option Addr) (n c : Nat) (w : World) (h : IntsR w a n l) (hd : DOk l) (hcap : n ≤ c) :
    Calls Tryz.prog 191 #[.slice a n c] w fun e' w' => (∃ m c', e' = .returned (.slice a m c') ∧ m ≤ n ∧ m ≤ c' ∧ Top (l.take m) ∧ dval (l.take m) = dval l) ∧ w = w' := by
 have HL := Lib.hid h
 have HD := Lib.hid hd
 have hn := h.small
 clear h hd
 go_enter Tryz.func191, Tryz.ntmps191
 go_wp2
 go_loop [3] (fun i => ∃ m : Nat, i = .int .i64 m ∧ m ≤ n ∧ Hid (dval (l.take m) = dval l)) (fun i => (intOf i).toNat)
 case atStart => exact ⟨n, rfl, Nat.le_refl _, by have := HL.out.len; rw [List.take_of_length_le (by omega)]; exact Lib.hid rfl⟩
 case round =>
  obtain ⟨m, rfl, hm, hF⟩ := hrel
  rcases m with _ | j
  ·go_wp2
   go_ret
   exact ⟨⟨0, c, rfl, Nat.zero_le _, Nat.zero_le _, by simpa using Top.nil, hF.out⟩, rfl⟩
  ·obtain ⟨b, o, rfl, hb, hc⟩ := HL.out.addr (by omega)
   have hck := hc j (by omega)
   obtain ⟨x, hx⟩ : ∃ x, x = l.getD j 0 := ⟨_, rfl⟩
   rw [← hx] at hck
   have HX := Lib.hid hx
   clear hx hc
   by_cases hx0 : x = 0
   ·have HX0 := Lib.hid (HX.out.symm.trans hx0)
    have hbx : (x == 0) = true := by simp [hx0]
    clear hx0 HX
    go_wp2
    go_round
    case rel => exact ⟨j, by go_num, by omega, Lib.hid (by rw [← dval_trim l j (by rw [HL.out.len]; omega) HX0.out]; exact hF.out)⟩
    case measure => simp [intOf]
   ·have hbx : (x == 0) = false := by simpa using hx0
    have HX0 := Lib.hid (show l.getD j 0 ≠ 0 from fun h0 => hx0 (HX.out.trans h0))
    clear hx0 HX
    go_wp2
    go_ret
    exact ⟨⟨j + 1, c, rfl, hm, Nat.le_trans hm hcap, Top.take (by rw [HL.out.len]; omega) HX0.out, hF.out⟩, rfl⟩
end Go.Proofs.YtidboecjllaofaaGreat

/- Comparing digits. -/
namespace Go.Proofs.YtidboecjllaofaaGreat
open Go.RowKit
set_option linter.unusedVariables false
set_option maxRecDepth 100000 in
theorem cmpDigits_any (l1 l2 : List Int) (a1 a2 : Option Addr) (n1 c1 n2 c2 : Nat) (w : World) (h1 : IntsR w a1 n1 l1) (h2 : IntsR w a2 n2 l2) (d1 : DOk l1) (d2 : DOk l2) (t1 : Top l1) (t2 : Top l2) :
    Calls Tryz.prog 169 #[.slice a1 n1 c1, .slice a2 n2 c2] w fun e' w' => e' = .returned (.int .i64 (dval l1 - dval l2).sign) ∧ ∃ m, w' = w.drewN m := by
 have H1 := Lib.hid h1
 have H2 := Lib.hid h2
 have D1 := Lib.hid d1
 have D2 := Lib.hid d2
 have hn1 := h1.small
 have hn2 := h2.small
 by_cases hne : n1 = n2
 ·clear t1 t2 d1 d2 h1 h2
  subst hne
  have hbb : ((n1 : Int) != (n1 : Int)) = false := by simp
  generalize hR : (dval l1 - dval l2).sign = R
  have HR := Lib.hid hR
  clear hR
  go_enter Tryz.func169, Tryz.ntmps169
  go_wp2
  go_loopw [5] (fun i wr => ∃ k : Nat, i = .int .i64 ((k : Int) - 1) ∧ k ≤ n1 ∧ Hid (dval (l1.drop k) = dval (l2.drop k)) ∧ ∃ m, wr = w.drewN m) (fun i _ => (intOf i + 1).toNat)
  case atStart => exact ⟨n1, by go_num, Nat.le_refl _, Lib.hid (by rw [List.drop_eq_nil_of_le (by rw [H1.out.len]; omega), List.drop_eq_nil_of_le (by rw [H2.out.len]; omega)]), 0, rfl⟩
  case round =>
   obtain ⟨k, rfl, hk, hF, m, rfl⟩ := hrel
   rcases k with _ | k
   ·go_wp2
    go_ret
    exact ⟨ret_int (by rw [← HR.out]; exact (sign_sub_zero (by simpa using hF.out)).symm), m, rfl⟩
   ·obtain ⟨b1, o1, rfl, hb1, hc1⟩ := H1.out.addr (by omega)
    obtain ⟨b2, o2, rfl, hb2, hc2⟩ := H2.out.addr (by omega)
    have hck1 := hc1 k (by omega)
    have hck2 := hc2 k (by omega)
    clear hc1 hc2
    obtain ⟨x, hx⟩ : ∃ x, x = l1.getD k 0 := ⟨_, rfl⟩
    obtain ⟨y, hy⟩ : ∃ y, y = l2.getD k 0 := ⟨_, rfl⟩
    rw [← hx] at hck1
    rw [← hy] at hck2
    have hk0 : (0 : Int) ≤ (k : Int) := by omega
    have hk1 : (k : Int) < (n1 : Int) := by omega
    have HX := Lib.hid hx
    have HY := Lib.hid hy
    clear hx hy
    rcases Int.lt_trichotomy x y with hxy | hxy | hxy
    ·have HS := Lib.hid (sign_sub_neg (dval_lt D1.out D2.out k (by rw [H1.out.len]; omega) (by rw [H2.out.len]; omega) hF.out (by rw [← HX.out, ← HY.out]; exact hxy)))
     have hbx : decide (x < y) = true := by simpa using hxy
     clear hxy
     go_wp2
     go_quiet (fail)
     go_wp2
     go_ret
     exact ⟨ret_int (by rw [← HR.out]; exact HS.out.symm), _, World.drewN_drewN _ _ _⟩
    ·have HF := Lib.hid (show dval (l1.drop k) = dval (l2.drop k) by rw [dval_drop l1 k, dval_drop l2 k, hF.out, ← HX.out, ← HY.out, hxy])
     have hbx : decide (x < y) = false := by simp; omega
     have hby : decide (y < x) = false := by simp; omega
     have hbz : decide (x > y) = false := by simp; omega
     clear hxy
     go_wp2
     go_quiet (fail)
     go_wp2
     go_quiet (fail)
     go_wp2
     go_roundw
     case rel => exact ⟨k, by go_num, by omega, HF, _, rfl⟩
     case measure => simp [intOf]
    ·have HS := Lib.hid (show (dval l1 - dval l2).sign = 1 from sign_sub_pos (dval_lt D2.out D1.out k (by rw [H2.out.len]; omega) (by rw [H1.out.len]; omega) hF.out.symm (by rw [← HX.out, ← HY.out]; exact hxy)))
     have hbx : decide (x < y) = false := by simp; omega
     have hby : decide (y < x) = true := by simp; omega
     have hbz : decide (x > y) = true := by simp; omega
     clear hxy
     go_wp2
     go_quiet (fail)
     go_wp2
     go_quiet (fail)
     go_wp2
     go_ret
     exact ⟨ret_int (by rw [← HR.out]; exact HS.out.symm), _, by rw [World.drewN_drewN, World.drewN_drewN]⟩
 ·have hbb : ((n1 : Int) != (n2 : Int)) = true := by simp; omega
  rcases Nat.lt_or_ge n1 n2 with hlt | hge
  ·rw [sign_sub_neg (Top.short d1 d2 t2 (by rw [h1.len, h2.len]; exact hlt))]
   clear t1 t2 d1 d2 h1 h2
   have hb2 : decide ((n1 : Int) < (n2 : Int)) = true := by simp; omega
   go_enter Tryz.func169, Tryz.ntmps169
   go_wp2
   go_ret
   exact ⟨rfl, 0, rfl⟩
  ·rw [sign_sub_pos (Top.short d2 d1 t1 (by rw [h1.len, h2.len]; omega))]
   clear t1 t2 d1 d2 h1 h2
   have hb2 : decide ((n1 : Int) < (n2 : Int)) = false := by simp; omega
   go_enter Tryz.func169, Tryz.ntmps169
   go_wp2
   go_ret
   exact ⟨rfl, 0, rfl⟩
end Go.Proofs.YtidboecjllaofaaGreat
