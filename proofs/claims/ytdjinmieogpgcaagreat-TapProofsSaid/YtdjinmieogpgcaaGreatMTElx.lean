import Derived.Maps.AppendAt
import Derived.Test.YtdjinmieogpgcaaGreatTFai
/- The exported functions of currents, failures and invariants: the program. -/
namespace Go.Proofs.YtdjinmieogpgcaaGreat
open Go.RowKit Go.Shelf
set_option linter.unusedVariables false
set_option linter.unusedSimpArgs false
set_option maxHeartbeats 1000000 in
set_option maxRecDepth 100000 in
theorem currentsIn_any (m : Mac) (l : Lim) (s load : Int) (ab ag : Option Addr) (nb cb ng cg : Nat) (w : World) (hb : BrR w ab nb m.br) (hg : GrR w ag ng m.gs) (h8 : nb ≤ 8) :
    Calls Tryz.prog 31 #[.agg #[.slice ab nb cb, .int .i64 m.st, .slice ag ng cg], .agg #[.int .i64 l.volt, .int .i64 l.lo, .int .i64 l.hi, .int .i64 l.circ, .int .i64 l.brk, .int .i64 l.ret], .int .i64 s, .int .i64 load] w
     fun e' w' => ∃ a' n' c', e' = .returned (.tuple #[.slice a' n' c', .int .i64 (eleE m l s load)]) ∧ Below w.heap.size w w' ∧ PairsR w' a' n' (if eleE m l s load = 0 then curT m l s.toNat load else []) := by
 have HE := Lib.hid (fun (W : World) (hbw : Below w.heap.size w W) => electric_any m l s load ab ag nb cb ng cg W (hb.below hbw) (hg.below hbw) h8)
 have HCU := Lib.hid (fun (h : eleE m l s load = 0) => show ∃ n : Nat, s = (n : Int) ∧ ∀ (W : World), Below w.heap.size w W → Calls Tryz.prog 68 #[.agg #[.slice ab nb cb, .int .i64 m.st, .slice ag ng cg, .int .i64 l.volt, .int .i64 l.lo, .int .i64 l.hi, .int .i64 l.circ, .int .i64 l.brk, .int .i64 l.ret], .int .i64 (n : Int), .int .i64 load] W (fun e' w' => ∃ g, e' = .returned (.slice (some ⟨g, 0, none⟩) nb nb) ∧ W.heap.size ≤ g ∧ w'.heap[g]? = some (.cells (pcells (curT m l n load)).toArray 85) ∧ Below W.heap.size W w') from by
  unfold eleE at h
  split at h
  ·rename_i h1; exact absurd h h1
  ·rename_i h1
   have h1 := Decidable.not_not.1 h1
   obtain ⟨hm, hl, ⟨n, rfl, hn⟩, hd⟩ := eleZ_zero h1
   rw [Int.toNat_natCast] at h
   have hv := ElV.of h1 h
   exact ⟨n, rfl, fun W hbw => currents_any m l n load ab ag nb cb ng cg W hm (hb.below hbw) hv.hl hv.hd (by rw [← hb.len]; exact hn) hv.h0⟩)
 have HLN := Lib.hid (fun (n : Nat) => show (curT m l n load).length = nb by rw [curT_len, hb.len])
 obtain ⟨L, hL⟩ : ∃ L, L = if eleE m l s load = 0 then curT m l s.toNat load else [] := ⟨_, rfl⟩
 have HL := Lib.hid hL
 rw [← hL]
 clear hL
 generalize eleE m l s load = E at *
 have hcu : ∀ n, curT m l n load = curT m l n load := fun _ => rfl
 generalize hCT : (fun n => curT m l n load) = CT at *
 have HCT := Lib.hid (fun n => (congrFun hCT n : curT m l n load = CT n))
 obtain ⟨vo, lo, hi, ci, br, re⟩ := l
 obtain ⟨st, hst⟩ : ∃ x, x = m.st := ⟨_, rfl⟩
 rw [← hst] at HE HCU ⊢
 simp only at HE HCU ⊢
 clear hb hg hst hcu hCT
 go_enter Tryz.func31, Tryz.ntmps31
 go_wp2_with fail
 refine (HE.out _ (by (first|exact bwg|go_size))).mono ?_
 rintro e5 w5 ⟨rfl, hb5⟩
 have HB5 := Lib.hid (show Below w.heap.size w w5 by (first|exact bwg|go_size))
 clear hb5 HE
 by_cases h0 : E = 0
 ·subst h0
  obtain ⟨n, rfl, hcw⟩ := HCU.out rfl
  obtain ⟨w6, hW⟩ : ∃ w6, w6 = w5.alloc (Obj.cells #[.slice ab nb cb, .int .i64 st, .slice ag ng cg, .int .i64 vo, .int .i64 lo, .int .i64 hi, .int .i64 ci, .int .i64 br, .int .i64 re] 100) := ⟨_, rfl⟩
  have hb6 : Below w5.heap.size w5 w6 := by rw [hW]; (first|exact bwg|go_size)
  have k6 : BlkR w6 w5.heap.size (.cells #[.slice ab nb cb, .int .i64 st, .slice ag ng cg, .int .i64 vo, .int .i64 lo, .int .i64 hi, .int .i64 ci, .int .i64 br, .int .i64 re] 100) := by show w6.heap[w5.heap.size]? = _; rw [hW]; exact heap_alloc_new _ _
  have HB6 := bwt HB5 hb6
  obtain ⟨X6, hX6⟩ : ∃ X, X = w5.heap.size := ⟨_, rfl⟩
  rw [← hX6] at k6
  have K6 := Lib.hid k6
  obtain ⟨c6, c6_1, c6_2, c6_3, c6_4, c6_5, c6_6, c6_7, c6_8, l6⟩ := blkc9 K6.out
  clear hb6 k6
  have HCW := Lib.hid (hcw w6 HB6.out)
  have HLX := Lib.hid (HL.out.trans (by rw [if_pos rfl, Int.toNat_natCast]))
  clear hcw HCU HL
  go_wp2_with fail
  rw [← hW]
  simp only [← hX6]
  clear hW hX6
  refine HCW.out.mono ?_
  rintro e7 w7 ⟨g, rfl, hg, hgr, hb7⟩
  have HK := Lib.hid (And.intro hgr hb7)
  clear hg hgr hb7
  go_wp2
  go_ret2
  refine ⟨some ⟨g, 0, none⟩, nb, nb, rfl, HB6.out.trans (HK.out.2.mono HB6.out.size), ?_⟩
  rw [HLX.out]
  have hln := HLN.out n
  refine ⟨by rw [pcells_length, hln], by unfold maxLen; omega, fun _ => ⟨g, 0, rfl, (Array.getElem?_eq_some_iff.1 HK.out.1).1, fun i u hu => ?_⟩⟩
  rw [Nat.zero_add, cell_of_row _ _ _ _ _ _ HK.out.1, List.getElem?_toArray]
  exact hu
 ·have e1 := bne_iff_ne.2 h0
  have HLX := Lib.hid (HL.out.trans (if_neg h0))
  clear h0 HCU HL
  go_wp2
  go_ret2
  exact ⟨none, 0, 0, rfl, HB5.out.alloc HB5.out.size _, by rw [HLX.out]; exact PairsR.nil _ _⟩
def opnE (m : Mac) (l : Lim) : Int := firstErr [(macE m).2, limE l]
theorem opnE_zero {m : Mac} {l : Lim} (h : opnE m l = 0) : MacV m ∧ limE l = 0 := by
 unfold opnE at h
 rw [firstErr_cons, firstErr_cons] at h
 exact ⟨(macE_zero h.1).2, h.2.1⟩
def failE (m : Mac) (l : Lim) : Int := if opnE m l ≠ 0 then opnE m l else unl (faiV m l).isSome 12
def failL (m : Mac) (l : Lim) : List Nat := if opnE m l ≠ 0 then [] else (faiV m l).getD []
def invE (m : Mac) (l : Lim) : Int := if opnE m l ≠ 0 then opnE m l else unl (!(faiV m l).isSome) 12
def invL (m : Mac) (l : Lim) : List Nat := if invE m l ≠ 0 then [] else reaS m
set_option maxHeartbeats 1000000 in
set_option maxRecDepth 100000 in
theorem failureOf_any (m : Mac) (l : Lim) (ab ag : Option Addr) (nb cb ng cg : Nat) (w : World) (hb : BrR w ab nb m.br) (hg : GrR w ag ng m.gs) :
    Calls Tryz.prog 14 #[.agg #[.slice ab nb cb, .int .i64 m.st, .slice ag ng cg], .agg #[.int .i64 l.volt, .int .i64 l.lo, .int .i64 l.hi, .int .i64 l.circ, .int .i64 l.brk, .int .i64 l.ret]] w
     fun e' w' => ∃ a' n' c', e' = .returned (.tuple #[.slice a' n' c', .int .i64 (failE m l)]) ∧ Below w.heap.size w w' ∧ IntsR w' a' n' (nats (failL m l)) := by
 have HO := Lib.hid (fun (W : World) (hbw : Below w.heap.size w W) => open_any m l ab ag nb cb ng cg W (hb.below hbw) (hg.below hbw))
 have HFA := Lib.hid (fun (h : opnE m l = 0) (W : World) (hbw : Below w.heap.size w W) => failure_any m l ab ag nb cb ng cg W (opnE_zero h).1 (opnE_zero h).2 (hb.below hbw) (hg.below hbw))
 have hE1 : failE m l = if opnE m l ≠ 0 then opnE m l else unl (faiV m l).isSome 12 := rfl
 have hE2 : failL m l = if opnE m l ≠ 0 then [] else (faiV m l).getD [] := rfl
 rw [show firstErr [(macE m).2, limE l] = opnE m l from rfl] at HO
 generalize failE m l = V1 at *
 generalize failL m l = V2 at *
 generalize opnE m l = E at *
 generalize faiV m l = FV at *
 have HE1 := Lib.hid hE1
 have HE2 := Lib.hid hE2
 obtain ⟨vo, lo, hi, ci, br, re⟩ := l
 obtain ⟨st, hst⟩ : ∃ x, x = m.st := ⟨_, rfl⟩
 rw [← hst] at HO HFA ⊢
 simp only at HO HFA ⊢
 clear hb hg hst hE1 hE2
 go_enter Tryz.func14, Tryz.ntmps14
 go_wp2_with fail
 refine (HO.out _ (by (first|exact bwg|go_size))).mono ?_
 rintro e5 w5 ⟨rfl, hb5⟩
 have HB5 := Lib.hid (show Below w.heap.size w w5 by (first|exact bwg|go_size))
 clear hb5 HO
 by_cases h0 : E = 0
 ·subst h0
  obtain ⟨w6, hW⟩ : ∃ w6, w6 = w5.alloc (Obj.cells #[.slice ab nb cb, .int .i64 st, .slice ag ng cg, .int .i64 vo, .int .i64 lo, .int .i64 hi, .int .i64 ci, .int .i64 br, .int .i64 re] 100) := ⟨_, rfl⟩
  have hb6 : Below w5.heap.size w5 w6 := by rw [hW]; (first|exact bwg|go_size)
  have k6 : BlkR w6 w5.heap.size (.cells #[.slice ab nb cb, .int .i64 st, .slice ag ng cg, .int .i64 vo, .int .i64 lo, .int .i64 hi, .int .i64 ci, .int .i64 br, .int .i64 re] 100) := by show w6.heap[w5.heap.size]? = _; rw [hW]; exact heap_alloc_new _ _
  have HB6 := bwt HB5 hb6
  obtain ⟨X6, hX6⟩ : ∃ X, X = w5.heap.size := ⟨_, rfl⟩
  rw [← hX6] at k6
  have K6 := Lib.hid k6
  obtain ⟨c6, c6_1, c6_2, c6_3, c6_4, c6_5, c6_6, c6_7, c6_8, l6⟩ := blkc9 K6.out
  clear hb6 k6
  have HCW := Lib.hid (HFA.out rfl w6 HB6.out)
  have HV1 := Lib.hid (HE1.out.trans (if_neg (by simp)))
  have HV2 := Lib.hid (HE2.out.trans (if_neg (by simp)))
  clear HFA HE1 HE2
  go_wp2_with fail
  rw [← hW]
  simp only [← hX6]
  clear hW hX6
  refine HCW.out.mono ?_
  rintro e7 w7 ⟨a', n', c', rfl, hb7, hr⟩
  have HK := Lib.hid (And.intro hb7 hr)
  clear hb7 hr
  go_wp2_with fail
  refine (t_unless_any _ _ _).mono ?_
  rintro e8 w8 ⟨rfl, rfl⟩
  go_wp2
  go_ret2
  exact ⟨a', n', c', by first | (rw [HV1.out]; done) | (rw [HV1.out]; rfl), HB6.out.trans (HK.out.1.mono HB6.out.size), by rw [HV2.out]; exact HK.out.2⟩
 ·have e1 := bne_iff_ne.2 h0
  have HV1 := Lib.hid (HE1.out.trans (if_pos h0))
  have HV2 := Lib.hid (HE2.out.trans (if_pos h0))
  clear h0 HFA HE1 HE2
  go_wp2
  go_ret2
  exact ⟨none, 0, 0, by first | (rw [HV1.out]; done) | (rw [HV1.out]; rfl), HB5.out.alloc HB5.out.size _, by rw [HV2.out]; exact IntsR.nil _ _⟩
set_option maxHeartbeats 1000000 in
set_option maxRecDepth 100000 in
theorem invariantOf_any (m : Mac) (l : Lim) (ab ag : Option Addr) (nb cb ng cg : Nat) (w : World) (hb : BrR w ab nb m.br) (hg : GrR w ag ng m.gs) :
    Calls Tryz.prog 16 #[.agg #[.slice ab nb cb, .int .i64 m.st, .slice ag ng cg], .agg #[.int .i64 l.volt, .int .i64 l.lo, .int .i64 l.hi, .int .i64 l.circ, .int .i64 l.brk, .int .i64 l.ret]] w
     fun e' w' => ∃ a' n' c', e' = .returned (.tuple #[.slice a' n' c', .int .i64 (invE m l)]) ∧ Below w.heap.size w w' ∧ IntsR w' a' n' (nats (invL m l)) := by
 have HO := Lib.hid (fun (W : World) (hbw : Below w.heap.size w W) => open_any m l ab ag nb cb ng cg W (hb.below hbw) (hg.below hbw))
 have HFA := Lib.hid (fun (h : opnE m l = 0) (W : World) (hbw : Below w.heap.size w W) => failure_any m l ab ag nb cb ng cg W (opnE_zero h).1 (opnE_zero h).2 (hb.below hbw) (hg.below hbw))
 have HRE := Lib.hid (fun (h : opnE m l = 0) (W : World) (hbw : Below w.heap.size w W) => reachable_any m ab ag nb cb ng cg W (opnE_zero h).1 hb.len (hg.below hbw))
 have hE1 : invE m l = if opnE m l ≠ 0 then opnE m l else unl (!(faiV m l).isSome) 12 := rfl
 have hE2 : invL m l = if invE m l ≠ 0 then [] else reaS m := rfl
 rw [show firstErr [(macE m).2, limE l] = opnE m l from rfl] at HO
 generalize invE m l = V1 at *
 generalize invL m l = V2 at *
 generalize opnE m l = E at *
 generalize faiV m l = FV at *
 have HE1 := Lib.hid hE1
 have HE2 := Lib.hid hE2
 obtain ⟨vo, lo, hi, ci, br, re⟩ := l
 obtain ⟨st, hst⟩ : ∃ x, x = m.st := ⟨_, rfl⟩
 rw [← hst] at HO HFA HRE ⊢
 simp only at HO HFA ⊢
 clear hb hg hst hE1 hE2
 go_enter Tryz.func16, Tryz.ntmps16
 go_wp2_with fail
 refine (HO.out _ (by (first|exact bwg|go_size))).mono ?_
 rintro e5 w5 ⟨rfl, hb5⟩
 have HB5 := Lib.hid (show Below w.heap.size w w5 by (first|exact bwg|go_size))
 clear hb5 HO
 by_cases h0 : E = 0
 ·subst h0
  obtain ⟨w6, hW⟩ : ∃ w6, w6 = w5.alloc (Obj.cells #[.slice ab nb cb, .int .i64 st, .slice ag ng cg, .int .i64 vo, .int .i64 lo, .int .i64 hi, .int .i64 ci, .int .i64 br, .int .i64 re] 100) := ⟨_, rfl⟩
  have hb6 : Below w5.heap.size w5 w6 := by rw [hW]; (first|exact bwg|go_size)
  have k6 : BlkR w6 w5.heap.size (.cells #[.slice ab nb cb, .int .i64 st, .slice ag ng cg, .int .i64 vo, .int .i64 lo, .int .i64 hi, .int .i64 ci, .int .i64 br, .int .i64 re] 100) := by show w6.heap[w5.heap.size]? = _; rw [hW]; exact heap_alloc_new _ _
  have HB6 := bwt HB5 hb6
  obtain ⟨X6, hX6⟩ : ∃ X, X = w5.heap.size := ⟨_, rfl⟩
  rw [← hX6] at k6
  have K6 := Lib.hid k6
  obtain ⟨c6, c6_1, c6_2, c6_3, c6_4, c6_5, c6_6, c6_7, c6_8, l6⟩ := blkc9 K6.out
  clear hb6 k6
  have HCW := Lib.hid (HFA.out rfl w6 HB6.out)
  have HV1 := Lib.hid (HE1.out.trans (if_neg (by simp)))
  have HRX := Lib.hid (HRE.out rfl)
  clear HFA HE1 HRE
  generalize FV.getD [] = FL at *
  go_wp2_with fail
  rw [← hW]
  simp only [← hX6]
  clear hW hX6
  refine HCW.out.mono ?_
  rintro e7 w7 ⟨a', n', c', rfl, hb7, hr⟩
  have HB7 := bwt HB6 hb7
  have K6 := Lib.hid (K6.out.below hb7)
  clear hb7 hr c6 c6_1 c6_2 c6_3 c6_4 c6_5 c6_6 c6_7 c6_8 l6
  obtain ⟨c6, c6_1, c6_2, c6_3, c6_4, c6_5, c6_6, c6_7, c6_8, l6⟩ := blkc9 K6.out
  have HRW := Lib.hid (HRX.out w7 HB7.out)
  generalize FV.isSome = FB at *
  cases FB
  ·have HV2 := Lib.hid (show V2 = reaS m from HE2.out.trans (by rw [HV1.out]; exact if_neg (by decide)))
   have HV3 := Lib.hid (show V1 = 0 from HV1.out)
   go_wp2_with fail
   refine HRW.out.mono ?_
   rintro e8 w8 ⟨a2, n2, c2, rfl, hb8, hr8⟩
   have HK := Lib.hid (And.intro hb8 hr8)
   clear hb8 hr8
   go_wp2
   go_ret2
   exact ⟨a2, n2, c2, by first | (rw [HV3.out]; done) | (rw [HV3.out]; rfl), HB7.out.trans (HK.out.1.mono HB7.out.size), by rw [HV2.out]; exact HK.out.2⟩
  ·have HV2 := Lib.hid (show V2 = [] from HE2.out.trans (by rw [HV1.out]; exact if_pos (by decide)))
   have HV3 := Lib.hid (show V1 = 12 from HV1.out)
   go_wp2
   go_ret2
   exact ⟨none, 0, 0, by first | (rw [HV3.out]; done) | (rw [HV3.out]; rfl), HB7.out, by rw [HV2.out]; exact IntsR.nil _ _⟩
 ·have e1 := bne_iff_ne.2 h0
  have HV1 := Lib.hid (HE1.out.trans (if_pos h0))
  have HV2 := Lib.hid (show V2 = [] from HE2.out.trans (by rw [HV1.out]; exact if_pos h0))
  clear h0 HFA HE1 HE2 HRE
  go_wp2
  go_ret2
  exact ⟨none, 0, 0, by first | (rw [HV1.out]; done) | (rw [HV1.out]; rfl), HB5.out.alloc HB5.out.size _, by rw [HV2.out]; exact IntsR.nil _ _⟩
/- The exported functions of states, changes and breaks: the program. -/
theorem blk_put2 {w : World} {X t : Nat} {x0 x1 : Value} (h : w.heap[X]? = some (.cells #[x0, x1] t)) (v0 v1 : Value) :
    ((w.setCell ⟨X, 0, none⟩ v0).setCell ⟨X, 1, none⟩ v1).heap[X]? = some (.cells #[v0, v1] t) := by
 have h0 : (w.setCell ⟨X, 0, none⟩ v0).heap[X]? = some (.cells #[v0, x1] t) := by rw [blk_set h 0 v0]; rfl
 have h1 : ((w.setCell ⟨X, 0, none⟩ v0).setCell ⟨X, 1, none⟩ v1).heap[X]? = some (.cells #[v0, v1] t) := by rw [blk_set h0 1 v1]; rfl
 exact h1
/- Runs: the program. -/
attribute [local go_sem] Oper.semAt_some
end Go.Proofs.YtdjinmieogpgcaaGreat
/- The program's states of a run, exported. -/
namespace Go.Proofs.YtdjinmieogpgcaaGreat
open Go.RowKit Go.Shelf
set_option linter.unusedVariables false
set_option linter.unusedSimpArgs false
attribute [local go_sem] Oper.semAt_some
end Go.Proofs.YtdjinmieogpgcaaGreat
/- All states that are reached, exported. -/
namespace Go.Proofs.YtdjinmieogpgcaaGreat
open Go.RowKit Go.Shelf
set_option linter.unusedVariables false
set_option linter.unusedSimpArgs false
attribute [local go_sem] Oper.semAt_some
end Go.Proofs.YtdjinmieogpgcaaGreat
/- The reference's voltage and currents as quotients, in plain words. -/
namespace Go.Proofs.YtdjinmieogpgcaaGreat
set_option linter.unusedVariables false
theorem res_cases {r : Int} (h0 : 1 ≤ r) (h1 : r ≤ 10) : (2520 : Int) = 2520 / r * r := by
 have : r = 1 ∨ r = 2 ∨ r = 3 ∨ r = 4 ∨ r = 5 ∨ r = 6 ∨ r = 7 ∨ r = 8 ∨ r = 9 ∨ r = 10 := by omega
 rcases this with h | h | h | h | h | h | h | h | h | h <;> rw [h] <;> decide
theorem divInt_1 (n : Int) : Rat.divInt n 1 = (n : Rat) := by rw [Rat.divInt_eq_div]; grind
theorem castZ {n : Int} (h : n ≠ 0) : (n : Rat) ≠ 0 := by
 intro e
 exact h (Rat.intCast_inj.1 (e.trans Rat.intCast_zero.symm))
theorem divInt_quot {a b c d : Int} (hb : b ≠ 0) (hc : c ≠ 0) (hd : d ≠ 0) : Rat.divInt a b / Rat.divInt c d = Rat.divInt (a * d) (b * c) := by
 have h1 := castZ hb
 have h2 := castZ hc
 have h3 := castZ hd
 rw [Rat.divInt_eq_div, Rat.divInt_eq_div, Rat.divInt_eq_div, Rat.intCast_mul, Rat.intCast_mul]
 grind
def outQ (m : Mac) (l : Lim) (s : Nat) (load : Int) : Rat := Rat.divInt (outT m l s load).1 (outT m l s load).2
def sumQ (m : Mac) (l : Lim) (load : Int) (L : List Nat) : Rat := Rat.divInt (numL m l load L) 2520
def conQ (m : Mac) (L : List Nat) : Rat := Rat.divInt (denL m L) 2520
def zQ (m : Mac) (l : Lim) (s : Nat) (load : Int) (k : Nat) : Rat := Rat.divInt (zcur m l s load k) (comD m l s load)
def rstQ (m : Mac) (l : Lim) (load N D : Int) (L : List Nat) : Rat := Rat.divInt (rstZ m l load N D L) (2520 * D)
theorem sumQ_nil (m : Mac) (l : Lim) (load : Int) : sumQ m l load [] = ((-load : Int) : Rat) := by
 unfold sumQ numL
 rw [List.foldl_nil, ← divInt_1, Rat.divInt_eq_divInt_iff (by decide) (by decide)]
 omega
theorem conQ_nil (m : Mac) : conQ m [] = ((0 : Int) : Rat) := by
 unfold conQ denL
 rw [List.foldl_nil, ← divInt_1, Rat.divInt_eq_divInt_iff (by decide) (by decide)]
 omega
theorem sumQ_snoc {m : Mac} {k : Nat} (l : Lim) (load : Int) (L : List Nat) (hr : 1 ≤ (bAt m.br k).res) (hr1 : (bAt m.br k).res ≤ 10) : sumQ m l load (L ++ [k]) = sumQ m l load L + Rat.divInt (volA m l k) (bAt m.br k).res := by
 unfold sumQ
 rw [numL_snoc, Rat.divInt_add_divInt _ _ (by decide) (by omega), Rat.divInt_eq_divInt_iff (by decide) (by omega)]
 have e := res_cases hr hr1
 generalize 2520 / (bAt m.br k).res = q at *
 generalize (bAt m.br k).res = r at *
 generalize numL m l load L = A at *
 generalize volA m l k = v at *
 grind
theorem conQ_snoc {m : Mac} {k : Nat} (L : List Nat) (hr : 1 ≤ (bAt m.br k).res) (hr1 : (bAt m.br k).res ≤ 10) : conQ m (L ++ [k]) = conQ m L + Rat.divInt 1 (bAt m.br k).res := by
 unfold conQ
 rw [denL_snoc, Rat.divInt_add_divInt _ _ (by decide) (by omega), Rat.divInt_eq_divInt_iff (by decide) (by omega)]
 have e := res_cases hr hr1
 generalize 2520 / (bAt m.br k).res = q at *
 generalize (bAt m.br k).res = r at *
 generalize denL m L = A at *
 grind
theorem outQ_res {m : Mac} {l : Lim} {s : Nat} {load : Int} {k : Nat} (h : (cloU s 6).find? (isRes m) = some k) : outQ m l s load = ((volA m l k : Int) : Rat) := by
 unfold outQ outT
 rw [h]
 exact divInt_1 _
theorem frR_divInt {q : Rat} : Rat.divInt (frR q).1 (frR q).2 = q := by unfold frR; exact Rat.num_divInt_den q
theorem outQ_div {m : Mac} {l : Lim} {s : Nat} {load : Int} (hD : 0 < denL m (cloU s 6)) (h : (cloU s 6).find? (isRes m) = none) : sumQ m l load (cloU s 6) / conQ m (cloU s 6) = outQ m l s load := by
 unfold outQ outT sumQ conQ
 rw [h]
 simp only
 rw [low_rat hD, frR_divInt, divInt_quot (by decide) (by omega) (by decide), Rat.divInt_eq_divInt_iff (by omega) (by omega)]
 grind
theorem conQ_ne {m : Mac} {L : List Nat} (hD : 0 < denL m L) : conQ m L ≠ 0 := by
 unfold conQ
 intro h
 have : (Rat.divInt (denL m L) 2520) = Rat.divInt 0 1 := by rw [h]; rfl
 rw [Rat.divInt_eq_divInt_iff (by decide) (by decide)] at this
 omega
theorem frR_low {a b : Int} (hb : 0 < b) : frR (Rat.divInt a b) = low a b := (low_rat hb).symm
theorem frR_z {m : Mac} {l : Lim} {s : Nat} {load : Int} (h : ElV m l s load) {k : Nat} (hk : k < m.br.length) : frR (zQ m l s load k) = (curT m l s load).getD k (0, 0) := by
 unfold zQ
 rw [curT_z h hk, frR_low h.com.1]
theorem zQ_res {m : Mac} {l : Lim} {s : Nat} {load : Int} {k : Nat} (hD : 0 < (outT m l s load).2) (hc : k ∈ cloU s 6) (hn : isRes m k = false) (hr : 1 ≤ (bAt m.br k).res) (hr1 : (bAt m.br k).res ≤ 10) :
    (((volA m l k : Int) : Rat) - outQ m l s load) / (((bAt m.br k).res : Int) : Rat) = zQ m l s load k := by
 unfold zQ zcur comD outQ ovr
 rw [if_pos ⟨hc, hn⟩]
 have e := res_cases hr hr1
 rw [← divInt_1 (volA m l k), ← divInt_1 (bAt m.br k).res, Rat.divInt_sub_divInt _ _ (by decide) (by omega), divInt_quot (by omega) (by omega) (by decide), Rat.divInt_eq_divInt_iff (by
  have := Int.mul_pos hD (show 0 < (bAt m.br k).res by omega)
  have e3 : 1 * (outT m l s load).2 * (bAt m.br k).res = (outT m l s load).2 * (bAt m.br k).res := by rw [Int.one_mul]
  omega) (by omega)]
 generalize 2520 / (bAt m.br k).res = q at *
 generalize (bAt m.br k).res = r at *
 generalize volA m l k = v at *
 generalize (outT m l s load).1 = N at *
 generalize (outT m l s load).2 = D at *
 have e2 : 2520 * D = q * r * D := by rw [← e]
 grind
theorem rstQ_nil {m : Mac} {l : Lim} {load N D : Int} (hD : 0 < D) : rstQ m l load N D [] = ((load : Int) : Rat) := by
 unfold rstQ rstZ
 rw [List.foldl_nil, ← divInt_1, Rat.divInt_eq_divInt_iff (by omega) (by decide)]
 omega
theorem rstQ_res {m : Mac} {l : Lim} {load N D : Int} {L : List Nat} {k : Nat} (h : isRes m k = true) : rstQ m l load N D (L ++ [k]) = rstQ m l load N D L := by
 unfold rstQ; rw [rstZ_snoc, if_pos h]
theorem rstQ_snoc {m : Mac} {l : Lim} {s : Nat} {load : Int} {L : List Nat} {k : Nat} (hD : 0 < (outT m l s load).2) (hc : k ∈ cloU s 6) (h : isRes m k = false) :
    rstQ m l load (outT m l s load).1 (outT m l s load).2 L - zQ m l s load k = rstQ m l load (outT m l s load).1 (outT m l s load).2 (L ++ [k]) := by
 unfold rstQ zQ zcur comD
 rw [rstZ_snoc, if_neg (show ¬ isRes m k = true by rw [h]; decide), if_pos (And.intro hc h), Rat.divInt_sub_divInt _ _ (by omega) (by omega), Rat.divInt_eq_divInt_iff (by
  have := Int.mul_pos (show 0 < 2520 * (outT m l s load).2 by omega) (show 0 < 2520 * (outT m l s load).2 by omega)
  omega) (by omega)]
 grind
theorem zQ_dir {m : Mac} {l : Lim} {s : Nat} {load : Int} {k : Nat} (hn : isRes m k = true) (hd : (k : Int) = dirD m (cloU s 6)) : zQ m l s load k = rstQ m l load (outT m l s load).1 (outT m l s load).2 (cloU s 6) := by
 unfold zQ zcur rstQ comD
 rw [if_neg (by rw [hn]; simp), if_pos hd]
theorem zQ_off {m : Mac} {l : Lim} {s : Nat} {load : Int} {k : Nat} (hn : ¬ (k ∈ cloU s 6 ∧ isRes m k = false)) (hd : (k : Int) ≠ dirD m (cloU s 6)) : zQ m l s load k = ((0 : Int) : Rat) := by
 unfold zQ zcur
 rw [if_neg hn, if_neg hd, Rat.zero_divInt]
 rfl
def cirQ (m : Mac) (l : Lim) (s k : Nat) : Rat := Rat.divInt (cirZ m l s k) (comD m l s 0)
theorem cirQ_zero (m : Mac) (l : Lim) (s : Nat) : cirQ m l s 0 = ((0 : Int) : Rat) := by
 unfold cirQ cirZ; rw [Rat.zero_divInt]; rfl
theorem cirQ_skip {m : Mac} {l : Lim} {s k : Nat} (h : (bAt m.br k).tap ≠ 1) : cirQ m l s (k + 1) = cirQ m l s k := by
 unfold cirQ
 rw [show cirZ m l s (k + 1) = cirZ m l s k from if_neg h]
theorem cirQ_plus {m : Mac} {l : Lim} {s k : Nat} (hD : 0 < comD m l s 0) (ht : (bAt m.br k).tap = 1) : cirQ m l s k + zQ m l s 0 k = cirQ m l s (k + 1) := by
 unfold cirQ zQ
 rw [show cirZ m l s (k + 1) = cirZ m l s k + zcur m l s 0 k from if_pos ht, Rat.divInt_add_divInt _ _ (by omega) (by omega), Rat.divInt_eq_divInt_iff (by
  have := Int.mul_pos hD hD
  omega) (by omega)]
 grind
/- The digits of base's wide numbers: digit, trimmed. -/
open Go.RowKit
theorem IntsR.take {w : World} {a : Option Addr} {n m : Nat} {l : List Int} (h : IntsR w a n l) (hm : m ≤ n) : IntsR w a m (l.take m) := by
 have hl := h.len
 refine ⟨by simp [icells]; omega, Nat.le_trans hm h.2.1, fun h0 => ?_⟩
 obtain ⟨b, o, rfl, hb, hc⟩ := h.2.2 (by omega)
 refine ⟨b, o, rfl, hb, fun i u hu => hc i u ?_⟩
 unfold icells at hu ⊢
 rw [List.map_take, List.getElem?_take] at hu
 split at hu
 ·exact hu
 ·simp at hu
theorem Top.take {l : List Int} {j : Nat} (hj : j < l.length) (h : l.getD j 0 ≠ 0) : Top (l.take (j + 1)) := by
 intro k hk
 rw [List.length_take, Nat.min_eq_left (by omega)] at hk
 obtain rfl : j = k := by omega
 rw [List.getD_eq_getElem?_getD, List.getElem?_take, if_pos (by omega), ← List.getD_eq_getElem?_getD]
 exact h
set_option maxRecDepth 100000 in
theorem digit_any (l : List Int) (a : Option Addr) (n c k : Nat) (w : World) (h : IntsR w a n l) :
    Calls Tryz.prog 174 #[.slice a n c, .int .i64 k] w fun e' w' => e' = .returned (.int .i64 (l.getD k 0)) ∧ w = w' := by
 have HL := Lib.hid h
 have hn := h.small
 clear h
 by_cases hlt : k < n
 ·obtain ⟨b, o, rfl, hb, hc⟩ := HL.out.addr (by omega)
  have hck := hc k hlt
  obtain ⟨x, hx⟩ : ∃ x, x = l.getD k 0 := ⟨_, rfl⟩
  rw [← hx] at hck ⊢
  clear hx hc HL
  go_enter Tryz.func174, Tryz.ntmps174
  go_wp2
  go_ret
  exact ⟨rfl, rfl⟩
 ·have hz : l.getD k 0 = 0 := by rw [List.getD_eq_getElem?_getD, List.getElem?_eq_none (by rw [HL.out.len]; omega)]; rfl
  rw [hz]
  clear hz HL
  go_enter Tryz.func174, Tryz.ntmps174
  go_wp2
  go_ret
  exact ⟨rfl, rfl⟩
set_option maxRecDepth 100000 in
theorem trimmed_any (l : List Int) (a : Option Addr) (n c : Nat) (w : World) (h : IntsR w a n l) (hd : DOk l) (hcap : n ≤ c) :
    Calls Tryz.prog 171 #[.slice a n c] w fun e' w' => (∃ m c', e' = .returned (.slice a m c') ∧ m ≤ n ∧ m ≤ c' ∧ Top (l.take m) ∧ dval (l.take m) = dval l) ∧ w = w' := by
 have HL := Lib.hid h
 have HD := Lib.hid hd
 have hn := h.small
 clear h hd
 go_enter Tryz.func171, Tryz.ntmps171
 go_wp2
 go_loop [3] (fun i => ∃ m : Nat, i = .int .i64 m ∧ m ≤ n ∧ Hid (dval (l.take m) = dval l)) (fun i => (intOf i).toNat)
 case atStart => exact ⟨n, rfl, Nat.le_refl _, by have := HL.out.len; rw [List.take_of_length_le (by omega)]; exact Lib.hid rfl⟩
 case round =>
  obtain ⟨m, rfl, hm, hF⟩ := hrel
  rcases m with _ | j
  ·go_wp2
   go_ret
   exact ⟨⟨0, c, rfl, Nat.zero_le _, Nat.zero_le _, by simpa using Top.nil, hF.out⟩, rfl⟩
  ·obtain ⟨b, o, rfl, hb, hc⟩ := HL.out.addr (by omega)
   have hck := hc j (by omega)
   obtain ⟨x, hx⟩ : ∃ x, x = l.getD j 0 := ⟨_, rfl⟩
   rw [← hx] at hck
   have HX := Lib.hid hx
   clear hx hc
   by_cases hx0 : x = 0
   ·have HX0 := Lib.hid (HX.out.symm.trans hx0)
    have hbx : (x == 0) = true := by simp [hx0]
    clear hx0 HX
    go_wp2
    go_round
    case rel => exact ⟨j, by go_num, by omega, Lib.hid (by rw [← dval_trim l j (by rw [HL.out.len]; omega) HX0.out]; exact hF.out)⟩
    case measure => simp [intOf]
   ·have hbx : (x == 0) = false := by simpa using hx0
    have HX0 := Lib.hid (show l.getD j 0 ≠ 0 from fun h0 => hx0 (HX.out.trans h0))
    clear hx0 HX
    go_wp2
    go_ret
    exact ⟨⟨j + 1, c, rfl, hm, Nat.le_trans hm hcap, Top.take (by rw [HL.out.len]; omega) HX0.out, hF.out⟩, rfl⟩
/- Comparing digits. -/
set_option maxRecDepth 100000 in
theorem cmpDigits_any (l1 l2 : List Int) (a1 a2 : Option Addr) (n1 c1 n2 c2 : Nat) (w : World) (h1 : IntsR w a1 n1 l1) (h2 : IntsR w a2 n2 l2) (d1 : DOk l1) (d2 : DOk l2) (t1 : Top l1) (t2 : Top l2) :
    Calls Tryz.prog 166 #[.slice a1 n1 c1, .slice a2 n2 c2] w fun e' w' => e' = .returned (.int .i64 (dval l1 - dval l2).sign) ∧ ∃ m, w' = w.drewN m := by
 have H1 := Lib.hid h1
 have H2 := Lib.hid h2
 have D1 := Lib.hid d1
 have D2 := Lib.hid d2
 have hn1 := h1.small
 have hn2 := h2.small
 by_cases hne : n1 = n2
 ·clear t1 t2 d1 d2 h1 h2
  subst hne
  have hbb : ((n1 : Int) != (n1 : Int)) = false := by simp
  generalize hR : (dval l1 - dval l2).sign = R
  have HR := Lib.hid hR
  clear hR
  go_enter Tryz.func166, Tryz.ntmps166
  go_wp2
  go_loopw [5] (fun i wr => ∃ k : Nat, i = .int .i64 ((k : Int) - 1) ∧ k ≤ n1 ∧ Hid (dval (l1.drop k) = dval (l2.drop k)) ∧ ∃ m, wr = w.drewN m) (fun i _ => (intOf i + 1).toNat)
  case atStart => exact ⟨n1, by go_num, Nat.le_refl _, Lib.hid (by rw [List.drop_eq_nil_of_le (by rw [H1.out.len]; omega), List.drop_eq_nil_of_le (by rw [H2.out.len]; omega)]), 0, rfl⟩
  case round =>
   obtain ⟨k, rfl, hk, hF, m, rfl⟩ := hrel
   rcases k with _ | k
   ·go_wp2
    go_ret
    exact ⟨ret_int (by rw [← HR.out]; exact (sign_sub_zero (by simpa using hF.out)).symm), m, rfl⟩
   ·obtain ⟨b1, o1, rfl, hb1, hc1⟩ := H1.out.addr (by omega)
    obtain ⟨b2, o2, rfl, hb2, hc2⟩ := H2.out.addr (by omega)
    have hck1 := hc1 k (by omega)
    have hck2 := hc2 k (by omega)
    clear hc1 hc2
    obtain ⟨x, hx⟩ : ∃ x, x = l1.getD k 0 := ⟨_, rfl⟩
    obtain ⟨y, hy⟩ : ∃ y, y = l2.getD k 0 := ⟨_, rfl⟩
    rw [← hx] at hck1
    rw [← hy] at hck2
    have hk0 : (0 : Int) ≤ (k : Int) := by omega
    have hk1 : (k : Int) < (n1 : Int) := by omega
    have HX := Lib.hid hx
    have HY := Lib.hid hy
    clear hx hy
    rcases Int.lt_trichotomy x y with hxy | hxy | hxy
    ·have HS := Lib.hid (sign_sub_neg (dval_lt D1.out D2.out k (by rw [H1.out.len]; omega) (by rw [H2.out.len]; omega) hF.out (by rw [← HX.out, ← HY.out]; exact hxy)))
     have hbx : decide (x < y) = true := by simpa using hxy
     clear hxy
     go_wp2
     go_quiet (fail)
     go_wp2
     go_ret
     exact ⟨ret_int (by rw [← HR.out]; exact HS.out.symm), _, World.drewN_drewN _ _ _⟩
    ·have HF := Lib.hid (show dval (l1.drop k) = dval (l2.drop k) by rw [dval_drop l1 k, dval_drop l2 k, hF.out, ← HX.out, ← HY.out, hxy])
     have hbx : decide (x < y) = false := by simp; omega
     have hby : decide (y < x) = false := by simp; omega
     have hbz : decide (x > y) = false := by simp; omega
     clear hxy
     go_wp2
     go_quiet (fail)
     go_wp2
     go_quiet (fail)
     go_wp2
     go_roundw
     case rel => exact ⟨k, by go_num, by omega, HF, _, rfl⟩
     case measure => simp [intOf]
    ·have HS := Lib.hid (show (dval l1 - dval l2).sign = 1 from sign_sub_pos (dval_lt D2.out D1.out k (by rw [H2.out.len]; omega) (by rw [H1.out.len]; omega) hF.out.symm (by rw [← HX.out, ← HY.out]; exact hxy)))
     have hbx : decide (x < y) = false := by simp; omega
     have hby : decide (y < x) = true := by simp; omega
     have hbz : decide (x > y) = true := by simp; omega
     clear hxy
     go_wp2
     go_quiet (fail)
     go_wp2
     go_quiet (fail)
     go_wp2
     go_ret
     exact ⟨ret_int (by rw [← HR.out]; exact HS.out.symm), _, by rw [World.drewN_drewN, World.drewN_drewN]⟩
 ·have hbb : ((n1 : Int) != (n2 : Int)) = true := by simp; omega
  rcases Nat.lt_or_ge n1 n2 with hlt | hge
  ·rw [sign_sub_neg (Top.short d1 d2 t2 (by rw [h1.len, h2.len]; exact hlt))]
   clear t1 t2 d1 d2 h1 h2
   have hb2 : decide ((n1 : Int) < (n2 : Int)) = true := by simp; omega
   go_enter Tryz.func166, Tryz.ntmps166
   go_wp2
   go_ret
   exact ⟨rfl, 0, rfl⟩
  ·rw [sign_sub_pos (Top.short d2 d1 t1 (by rw [h1.len, h2.len]; omega))]
   clear t1 t2 d1 d2 h1 h2
   have hb2 : decide ((n1 : Int) < (n2 : Int)) = false := by simp; omega
   go_enter Tryz.func166, Tryz.ntmps166
   go_wp2
   go_ret
   exact ⟨rfl, 0, rfl⟩
/- Adding digits. -/
theorem append_one {ops : Array Oper} {rest : List Oper} {o : Oper} {a : Act} {Q : Exit → Act → World → Prop} (w : World) (hgd : o.guard = none) (s x : Operand)
    (ho : o.op = .call { callee := .builtin .append, args := #[s, x], argTypes := #[48, 48] }) (base n B : Nat) (v : Value) (xs : List Value) (u : Value) (hs : a.eval s = v)
    (hown : w.ownsRow base 3 1 v n xs) (hx : a.eval x = .slice (some ⟨B, 0, none⟩) 1 1) (hc : w.cell? ⟨B, 0, none⟩ = some u) (h1 : u.oneCell' = true) (hn : n ≤ 1000000) (hbase : base ≤ w.heap.size)
    (h : ∀ v' w', w'.ownsRow base 3 1 v' (n + 1) (xs ++ [u]) → w.grownBy w' v.ownBlock → (v'.ownBlock = v.ownBlock ∨ v'.ownBlock = some w.heap.size) → Below base w w' → wpList Tryz.prog ops Q rest (a.put o.dst v') w') : wpList Tryz.prog ops Q (o :: rest) a w := by
 obtain ⟨i, hi1, hi2, hi3, hi4⟩ := info_parts infoInt
 have hmul : (n + 1) * 8 ≤ 1000001 * 8 := Nat.mul_le_mul (by omega) (by omega)
 refine wpList_append_own_at w hgd s x 48 ho base 3 i _ 1 8 Tryz.underlying48 hi1 hi2 hi3 hi4 rfl (by omega) v n xs hs hown ⟨B, 0, none⟩ 1 1 [u] hx rfl (fun j u' hu => ?_) (fun u' hu => ?_) (by unfold maxLen; omega) (by omega) hbase
  (fun v' w' h2 h3 _ h5 => h v' w' h2 h3 h5 ((Below.refl base w).grown h3 hbase (fun k hk => (hown.lt k hk).1)))
 ·rcases j with _ | j
  ·simp at hu; subst hu; simpa [Addr.add] using hc
  ·simp at hu
 ·simp at hu; subst hu; exact h1
set_option maxRecDepth 100000 in
theorem addDigits_any (l1 l2 : List Int) (a1 a2 : Option Addr) (n1 c1 n2 c2 : Nat) (w : World) (h1 : IntsR w a1 n1 l1) (h2 : IntsR w a2 n2 l2) (d1 : DOk l1) (d2 : DOk l2) (hn1 : n1 ≤ 990000) (hn2 : n2 ≤ 990000) :
    Calls Tryz.prog 165 #[.slice a1 n1 c1, .slice a2 n2 c2] w fun e' w' => ∃ a' n' c', e' = .returned (.slice a' n' c') ∧ Below w.heap.size w w' ∧ ∃ l, w'.ownsRow w.heap.size 3 1 (.slice a' n' c') n' (icells l) ∧ DOk l ∧ dval l = dval l1 + dval l2 ∧ n' ≤ 1000000 := by
 have H1 := Lib.hid h1
 have H2 := Lib.hid h2
 have D1 := Lib.hid d1
 have D2 := Lib.hid d2
 clear h1 h2 d1 d2
 go_enter Tryz.func165, Tryz.ntmps165
 go_wp2
 go_loopw [5, 6, 7] (fun v c i wr => ∃ k : Nat, i = .int .i64 k ∧ k ≤ 990001 ∧ (∃ av cv o C, v = .slice av k cv ∧ c = .int .i64 C ∧ 0 ≤ C ∧ C ≤ 1 ∧ Hid (n1 < k → n2 < k → C = 0) ∧ Hid (wr.ownsRow w.heap.size 3 1 (.slice av k cv) k (icells o)) ∧ Hid (o.length = k ∧ DOk o ∧ dval o + pw k * (C + dval (l1.drop k) + dval (l2.drop k)) = dval l1 + dval l2)) ∧ Hid (Below w.heap.size w wr)) (fun _ _ i _ => 1000000 - (intOf i).toNat)
 case atStart => exact ⟨0, rfl, by omega, ⟨none, 0, [], 0, rfl, rfl, by omega, by omega, Lib.hid (fun _ _ => rfl), Lib.hid (World.ownsRow_nil _ _ _ _), Lib.hid ⟨rfl, DOk.nil, by simp [dval, pw]⟩⟩, Lib.hid (Below.refl _ _)⟩
 case round =>
  obtain ⟨k, rfl, hk, ⟨av, cv, o, C, rfl, rfl, hC0, hC1, hcz, hO, hF⟩, hB⟩ := hrel
  have hB0 := hB.out.size
  by_cases hend : n1 ≤ k ∧ n2 ≤ k ∧ C = 0
  ·obtain ⟨e1, e2, e3⟩ := hend
   subst e3
   have HZ := Lib.hid (show dval o = dval l1 + dval l2 by
    have := hF.out.2.2
    rw [List.drop_eq_nil_of_le (by rw [H1.out.len]; omega), List.drop_eq_nil_of_le (by rw [H2.out.len]; omega)] at this
    simpa [dval] using this)
   go_wp2
   go_ret
   exact ⟨av, k, cv, rfl, hB.out, o, hO.out, hF.out.2.1, HZ.out, by omega⟩
  ·have hk' : k ≤ 990000 := by
     by_cases h1 : n1 < k ∧ n2 < k
     ·have := hcz.out h1.1 h1.2; omega
     ·omega
   obtain ⟨x, hx⟩ : ∃ x, x = l1.getD k 0 := ⟨_, rfl⟩
   obtain ⟨y, hy⟩ : ∃ y, y = l2.getD k 0 := ⟨_, rfl⟩
   have bx := D1.out.get k
   have by_ := D2.out.get k
   have HD1 := Lib.hid (fun w' (h : IntsR w' a1 n1 l1) => digit_any l1 a1 n1 c1 k w' h)
   have HD2 := Lib.hid (fun w' (h : IntsR w' a2 n2 l2) => digit_any l2 a2 n2 c2 k w' h)
   have HN := Lib.hid (add_digit o l1 l2 k C _ hF.out.1 hF.out.2.2)
   rw [← hx] at bx HD1 HN
   rw [← hy] at by_ HD2 HN
   have HC' := Lib.hid (show n1 < k + 1 → n2 < k + 1 → (x + y + C) / 1000000000 = 0 by
    intro q1 q2
    rw [List.getD_eq_getElem?_getD, List.getElem?_eq_none (by rw [H1.out.len]; omega)] at hx
    rw [List.getD_eq_getElem?_getD, List.getElem?_eq_none (by rw [H2.out.len]; omega)] at hy
    simp only [Option.getD_none] at hx hy
    subst hx; subst hy
    omega)
   have HI1 := Lib.hid (H1.out.below hB.out)
   have HI2 := Lib.hid (H2.out.below hB.out)
   have hcond : (decide ((k : Int) < (n1 : Int)) || decide ((k : Int) < (n2 : Int)) || decide (0 < C)) = true := by simp; omega
   have HBD := Lib.hid (show (0 ≤ (x + y + C) % 1000000000 ∧ (x + y + C) % 1000000000 ≤ 999999999) ∧ (0 ≤ (x + y + C) / 1000000000 ∧ (x + y + C) / 1000000000 ≤ 1) by
    omega)
   clear hx hy hcz hk
   have HO := Lib.hid hO.out
   have HB := Lib.hid hB.out
   have HOL := Lib.hid hF.out
   clear hO hB hF
   by_cases q1 : k < n1
   ·skip
    go_wp2_with fail
    refine (HD1.out _ HI1.out).mono ?_
    rintro e5 w5 ⟨rfl, rfl⟩
    go_wp2_with fail
    refine (HD2.out _ HI2.out).mono ?_
    rintro e6 w6 ⟨rfl, rfl⟩
    go_wp2_with (at_builtin; refine append_one _ rfl _ _ rfl w.heap.size k wr.heap.size (.slice av k cv) _ (.int .i64 ((x + y + C) % 1000000000)) rfl (HO.out.alloc _) rfl (by go_simp) rfl (by omega) (by simp; omega) ?_)
    intro v8 w8 hown8 _ _ hb8
    obtain ⟨av2, cv2, rfl, _, _⟩ := owns_slice hown8
    have HO8 := Lib.hid (show w8.ownsRow w.heap.size 3 1 (.slice av2 (k + 1) cv2) (k + 1) (icells (o ++ [(x + y + C) % 1000000000])) by rw [icells_append]; exact hown8)
    have HB8 := Lib.hid (Below.trans HB.out (Below.trans (Below.alloc (Below.refl _ _) hB0 _) hb8))
    clear hown8 hb8
    go_wp2
    go_roundw
    case rel => exact ⟨k + 1, by go_num, by omega, ⟨av2, cv2, _, _, rfl, rfl, HBD.out.2.1, HBD.out.2.2, HC', HO8, Lib.hid ⟨by simp [HOL.out.1], HOL.out.2.1.app (DOk.one HBD.out.1.1 HBD.out.1.2), HN.out⟩⟩, HB8⟩
    case measure => simp [intOf]; omega
   ·by_cases q2 : k < n2
    ·skip
     go_wp2_with fail
     refine (HD1.out _ HI1.out).mono ?_
     rintro e5 w5 ⟨rfl, rfl⟩
     go_wp2_with fail
     refine (HD2.out _ HI2.out).mono ?_
     rintro e6 w6 ⟨rfl, rfl⟩
     go_wp2_with (at_builtin; refine append_one _ rfl _ _ rfl w.heap.size k wr.heap.size (.slice av k cv) _ (.int .i64 ((x + y + C) % 1000000000)) rfl (HO.out.alloc _) rfl (by go_simp) rfl (by omega) (by simp; omega) ?_)
     intro v8 w8 hown8 _ _ hb8
     obtain ⟨av2, cv2, rfl, _, _⟩ := owns_slice hown8
     have HO8 := Lib.hid (show w8.ownsRow w.heap.size 3 1 (.slice av2 (k + 1) cv2) (k + 1) (icells (o ++ [(x + y + C) % 1000000000])) by rw [icells_append]; exact hown8)
     have HB8 := Lib.hid (Below.trans HB.out (Below.trans (Below.alloc (Below.refl _ _) hB0 _) hb8))
     clear hown8 hb8
     go_wp2
     go_roundw
     case rel => exact ⟨k + 1, by go_num, by omega, ⟨av2, cv2, _, _, rfl, rfl, HBD.out.2.1, HBD.out.2.2, HC', HO8, Lib.hid ⟨by simp [HOL.out.1], HOL.out.2.1.app (DOk.one HBD.out.1.1 HBD.out.1.2), HN.out⟩⟩, HB8⟩
     case measure => simp [intOf]; omega
    ·have q3 : 0 < C := by omega
     go_wp2_with fail
     refine (HD1.out _ HI1.out).mono ?_
     rintro e5 w5 ⟨rfl, rfl⟩
     go_wp2_with fail
     refine (HD2.out _ HI2.out).mono ?_
     rintro e6 w6 ⟨rfl, rfl⟩
     go_wp2_with (at_builtin; refine append_one _ rfl _ _ rfl w.heap.size k wr.heap.size (.slice av k cv) _ (.int .i64 ((x + y + C) % 1000000000)) rfl (HO.out.alloc _) rfl (by go_simp) rfl (by omega) (by simp; omega) ?_)
     intro v8 w8 hown8 _ _ hb8
     obtain ⟨av2, cv2, rfl, _, _⟩ := owns_slice hown8
     have HO8 := Lib.hid (show w8.ownsRow w.heap.size 3 1 (.slice av2 (k + 1) cv2) (k + 1) (icells (o ++ [(x + y + C) % 1000000000])) by rw [icells_append]; exact hown8)
     have HB8 := Lib.hid (Below.trans HB.out (Below.trans (Below.alloc (Below.refl _ _) hB0 _) hb8))
     clear hown8 hb8
     go_wp2
     go_roundw
     case rel => exact ⟨k + 1, by go_num, by omega, ⟨av2, cv2, _, _, rfl, rfl, HBD.out.2.1, HBD.out.2.2, HC', HO8, Lib.hid ⟨by simp [HOL.out.1], HOL.out.2.1.app (DOk.one HBD.out.1.1 HBD.out.1.2), HN.out⟩⟩, HB8⟩
     case measure => simp [intOf]; omega
end Go.Proofs.YtdjinmieogpgcaaGreat
