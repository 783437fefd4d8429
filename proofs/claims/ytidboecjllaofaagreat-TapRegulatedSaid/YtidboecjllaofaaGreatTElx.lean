import Derived.Test.YtidboecjllaofaaGreatTElc
import Derived.Test.YtidboecjllaofaaGreatTFai
/- The exported functions of currents, failures and invariants: the program. -/
namespace Go.Proofs.YtidboecjllaofaaGreat
open Go.RowKit Go.Shelf
set_option linter.unusedVariables false
set_option linter.unusedSimpArgs false

set_option maxHeartbeats 1000000 in
set_option maxRecDepth 100000 in
theorem currentsIn_any (m : Mac) (l : Lim) (s load : Int) (ab ag : Option Addr) (nb cb ng cg : Nat) (w : World) (hb : BrR w ab nb m.br) (hg : GrR w ag ng m.gs) (h8 : nb ≤ 8) :
    Calls Tryz.prog 25 #[.agg #[.slice ab nb cb, .int .i64 m.st, .slice ag ng cg], .agg #[.int .i64 l.volt, .int .i64 l.lo, .int .i64 l.hi, .int .i64 l.circ, .int .i64 l.brk, .int .i64 l.ret], .int .i64 s, .int .i64 load] w
      fun e' w' => ∃ a' n' c', e' = .returned (.tuple #[.slice a' n' c', .int .i64 (eleE m l s load)]) ∧ Below w.heap.size w w' ∧ PairsR w' a' n' (if eleE m l s load = 0 then curT m l s.toNat load else []) := by
  have HE := Lib.hid (fun (W : World) (hbw : Below w.heap.size w W) => electric_any m l s load ab ag nb cb ng cg W (hb.below hbw) (hg.below hbw) h8)
  have HCU := Lib.hid (fun (h : eleE m l s load = 0) => show ∃ n : Nat, s = (n : Int) ∧ ∀ (W : World), Below w.heap.size w W → Calls Tryz.prog 99 #[.agg #[.slice ab nb cb, .int .i64 m.st, .slice ag ng cg, .int .i64 l.volt, .int .i64 l.lo, .int .i64 l.hi, .int .i64 l.circ, .int .i64 l.brk, .int .i64 l.ret], .int .i64 (n : Int), .int .i64 load] W (fun e' w' => ∃ g, e' = .returned (.slice (some ⟨g, 0, none⟩) nb nb) ∧ W.heap.size ≤ g ∧ w'.heap[g]? = some (.cells (pcells (curT m l n load)).toArray 58) ∧ Below W.heap.size W w') from by
    unfold eleE at h
    split at h
    · rename_i h1; exact absurd h h1
    · rename_i h1
      have h1 := Decidable.not_not.1 h1
      obtain ⟨hm, hl, ⟨n, rfl, hn⟩, hd⟩ := eleZ_zero h1
      rw [Int.toNat_natCast] at h
      have hv := ElV.of h1 h
      exact ⟨n, rfl, fun W hbw => currents_any m l n load ab ag nb cb ng cg W hm (hb.below hbw) hv.hl hv.hd (by rw [← hb.len]; exact hn) hv.h0⟩)
  have HLN := Lib.hid (fun (n : Nat) => show (curT m l n load).length = nb by rw [curT_len, hb.len])
  obtain ⟨L, hL⟩ : ∃ L, L = if eleE m l s load = 0 then curT m l s.toNat load else [] := ⟨_, rfl⟩
  have HL := Lib.hid hL
  rw [← hL]
  clear hL
  generalize eleE m l s load = E at *
  have hcu : ∀ n, curT m l n load = curT m l n load := fun _ => rfl
  generalize hCT : (fun n => curT m l n load) = CT at *
  have HCT := Lib.hid (fun n => (congrFun hCT n : curT m l n load = CT n))
  obtain ⟨vo, lo, hi, ci, br, re⟩ := l
  obtain ⟨st, hst⟩ : ∃ x, x = m.st := ⟨_, rfl⟩
  rw [← hst] at HE HCU ⊢
  simp only at HE HCU ⊢
  clear hb hg hst hcu hCT
  go_enter Tryz.func25, Tryz.ntmps25
  go_wp2_with fail
  refine (HE.out _ (by (repeat' (first | (with_reducible exact Below.refl _ _) | (with_reducible assumption) | (with_reducible refine Below.drewN ?_ _) | (with_reducible refine Below.alloc ?_ ?_ _) | (with_reducible refine Below.drew ?_) | (with_reducible refine Below.setCell ?_ ?_ _) | (with_reducible refine Below.step (by assumption) ?_ ?_) | (with_reducible exact And.left (by assumption)) | go_size)))).mono ?_
  rintro e5 w5 ⟨rfl, hb5⟩
  have HB5 := Lib.hid (show Below w.heap.size w w5 by (repeat' (first | (with_reducible exact Below.refl _ _) | (with_reducible assumption) | (with_reducible refine Below.drewN ?_ _) | (with_reducible refine Below.alloc ?_ ?_ _) | (with_reducible refine Below.drew ?_) | (with_reducible refine Below.setCell ?_ ?_ _) | (with_reducible refine Below.step (by assumption) ?_ ?_) | (with_reducible exact And.left (by assumption)) | go_size)))
  clear hb5 HE
  by_cases h0 : E = 0
  · subst h0
    obtain ⟨n, rfl, hcw⟩ := HCU.out rfl
    obtain ⟨w6, hW⟩ : ∃ w6, w6 = w5.alloc (Obj.cells #[.slice ab nb cb, .int .i64 st, .slice ag ng cg, .int .i64 vo, .int .i64 lo, .int .i64 hi, .int .i64 ci, .int .i64 br, .int .i64 re] 164) := ⟨_, rfl⟩
    have hb6 : Below w5.heap.size w5 w6 := by rw [hW]; (repeat' (first | (with_reducible exact Below.refl _ _) | (with_reducible assumption) | (with_reducible refine Below.drewN ?_ _) | (with_reducible refine Below.alloc ?_ ?_ _) | (with_reducible refine Below.drew ?_) | (with_reducible refine Below.setCell ?_ ?_ _) | (with_reducible refine Below.step (by assumption) ?_ ?_) | (with_reducible exact And.left (by assumption)) | go_size))
    have k6 : BlkR w6 w5.heap.size (.cells #[.slice ab nb cb, .int .i64 st, .slice ag ng cg, .int .i64 vo, .int .i64 lo, .int .i64 hi, .int .i64 ci, .int .i64 br, .int .i64 re] 164) := by show w6.heap[w5.heap.size]? = _; rw [hW]; exact heap_alloc_new _ _
    have HB6 := Lib.hid (HB5.out.trans (hb6.mono HB5.out.size))
    obtain ⟨X6, hX6⟩ : ∃ X, X = w5.heap.size := ⟨_, rfl⟩
    rw [← hX6] at k6
    have K6 := Lib.hid k6
    have c6 := blk_cell K6.out (i := 0) rfl
    have c6_1 := blk_cell K6.out (i := 1) rfl
    have c6_2 := blk_cell K6.out (i := 2) rfl
    have c6_3 := blk_cell K6.out (i := 3) rfl
    have c6_4 := blk_cell K6.out (i := 4) rfl
    have c6_5 := blk_cell K6.out (i := 5) rfl
    have c6_6 := blk_cell K6.out (i := 6) rfl
    have c6_7 := blk_cell K6.out (i := 7) rfl
    have c6_8 := blk_cell K6.out (i := 8) rfl
    have l6 := K6.out.lt
    clear hb6 k6
    have HCW := Lib.hid (hcw w6 HB6.out)
    have HLX := Lib.hid (HL.out.trans (by rw [if_pos rfl, Int.toNat_natCast]))
    clear hcw HCU HL
    go_wp2_with fail
    rw [← hW]
    simp only [← hX6]
    clear hW hX6
    refine HCW.out.mono ?_
    rintro e7 w7 ⟨g, rfl, hg, hgr, hb7⟩
    have HK := Lib.hid (And.intro hgr hb7)
    clear hg hgr hb7
    go_wp2
    go_ret2
    refine ⟨some ⟨g, 0, none⟩, nb, nb, rfl, HB6.out.trans (HK.out.2.mono HB6.out.size), ?_⟩
    rw [HLX.out]
    have hln := HLN.out n
    refine ⟨by rw [pcells_length, hln], by unfold maxLen; omega, fun _ => ⟨g, 0, rfl, (Array.getElem?_eq_some_iff.1 HK.out.1).1, fun i u hu => ?_⟩⟩
    rw [Nat.zero_add, cell_of_row _ _ _ _ _ _ HK.out.1, List.getElem?_toArray]
    exact hu
  · have e1 := bne_iff_ne.2 h0
    have HLX := Lib.hid (HL.out.trans (if_neg h0))
    clear h0 HCU HL
    go_wp2
    go_ret2
    exact ⟨none, 0, 0, rfl, HB5.out.alloc HB5.out.size _, by rw [HLX.out]; exact PairsR.nil _ _⟩
/-- The error of a machine with limits. -/
def opnE (m : Mac) (l : Lim) : Int := firstErr [(macE m).2, limE l]
theorem opnE_zero {m : Mac} {l : Lim} (h : opnE m l = 0) : MacV m ∧ limE l = 0 := by
  unfold opnE at h
  rw [firstErr_cons, firstErr_cons] at h
  exact ⟨(macE_zero h.1).2, h.2.1⟩
/-- What FailureOf and InvariantOf give. -/
def failE (m : Mac) (l : Lim) : Int := if opnE m l ≠ 0 then opnE m l else unl (faiV m l).isSome 12
def failL (m : Mac) (l : Lim) : List Nat := if opnE m l ≠ 0 then [] else (faiV m l).getD []
def invE (m : Mac) (l : Lim) : Int := if opnE m l ≠ 0 then opnE m l else unl (!(faiV m l).isSome) 12
def invL (m : Mac) (l : Lim) : List Nat := if invE m l ≠ 0 then [] else reaS m
set_option maxHeartbeats 1000000 in
set_option maxRecDepth 100000 in
theorem failureOf_any (m : Mac) (l : Lim) (ab ag : Option Addr) (nb cb ng cg : Nat) (w : World) (hb : BrR w ab nb m.br) (hg : GrR w ag ng m.gs) :
    Calls Tryz.prog 69 #[.agg #[.slice ab nb cb, .int .i64 m.st, .slice ag ng cg], .agg #[.int .i64 l.volt, .int .i64 l.lo, .int .i64 l.hi, .int .i64 l.circ, .int .i64 l.brk, .int .i64 l.ret]] w
      fun e' w' => ∃ a' n' c', e' = .returned (.tuple #[.slice a' n' c', .int .i64 (failE m l)]) ∧ Below w.heap.size w w' ∧ IntsR w' a' n' (nats (failL m l)) := by
  have HO := Lib.hid (fun (W : World) (hbw : Below w.heap.size w W) => open_any m l ab ag nb cb ng cg W (hb.below hbw) (hg.below hbw))
  have HFA := Lib.hid (fun (h : opnE m l = 0) (W : World) (hbw : Below w.heap.size w W) => failure_any m l ab ag nb cb ng cg W (opnE_zero h).1 (opnE_zero h).2 (hb.below hbw) (hg.below hbw))
  have hE1 : failE m l = if opnE m l ≠ 0 then opnE m l else unl (faiV m l).isSome 12 := rfl
  have hE2 : failL m l = if opnE m l ≠ 0 then [] else (faiV m l).getD [] := rfl
  rw [show firstErr [(macE m).2, limE l] = opnE m l from rfl] at HO
  generalize failE m l = V1 at *
  generalize failL m l = V2 at *
  generalize opnE m l = E at *
  generalize faiV m l = FV at *
  have HE1 := Lib.hid hE1
  have HE2 := Lib.hid hE2
  obtain ⟨vo, lo, hi, ci, br, re⟩ := l
  obtain ⟨st, hst⟩ : ∃ x, x = m.st := ⟨_, rfl⟩
  rw [← hst] at HO HFA ⊢
  simp only at HO HFA ⊢
  clear hb hg hst hE1 hE2
  go_enter Tryz.func69, Tryz.ntmps69
  go_wp2_with fail
  refine (HO.out _ (by (repeat' (first | (with_reducible exact Below.refl _ _) | (with_reducible assumption) | (with_reducible refine Below.drewN ?_ _) | (with_reducible refine Below.alloc ?_ ?_ _) | (with_reducible refine Below.drew ?_) | (with_reducible refine Below.setCell ?_ ?_ _) | (with_reducible refine Below.step (by assumption) ?_ ?_) | (with_reducible exact And.left (by assumption)) | go_size)))).mono ?_
  rintro e5 w5 ⟨rfl, hb5⟩
  have HB5 := Lib.hid (show Below w.heap.size w w5 by (repeat' (first | (with_reducible exact Below.refl _ _) | (with_reducible assumption) | (with_reducible refine Below.drewN ?_ _) | (with_reducible refine Below.alloc ?_ ?_ _) | (with_reducible refine Below.drew ?_) | (with_reducible refine Below.setCell ?_ ?_ _) | (with_reducible refine Below.step (by assumption) ?_ ?_) | (with_reducible exact And.left (by assumption)) | go_size)))
  clear hb5 HO
  by_cases h0 : E = 0
  · subst h0
    obtain ⟨w6, hW⟩ : ∃ w6, w6 = w5.alloc (Obj.cells #[.slice ab nb cb, .int .i64 st, .slice ag ng cg, .int .i64 vo, .int .i64 lo, .int .i64 hi, .int .i64 ci, .int .i64 br, .int .i64 re] 164) := ⟨_, rfl⟩
    have hb6 : Below w5.heap.size w5 w6 := by rw [hW]; (repeat' (first | (with_reducible exact Below.refl _ _) | (with_reducible assumption) | (with_reducible refine Below.drewN ?_ _) | (with_reducible refine Below.alloc ?_ ?_ _) | (with_reducible refine Below.drew ?_) | (with_reducible refine Below.setCell ?_ ?_ _) | (with_reducible refine Below.step (by assumption) ?_ ?_) | (with_reducible exact And.left (by assumption)) | go_size))
    have k6 : BlkR w6 w5.heap.size (.cells #[.slice ab nb cb, .int .i64 st, .slice ag ng cg, .int .i64 vo, .int .i64 lo, .int .i64 hi, .int .i64 ci, .int .i64 br, .int .i64 re] 164) := by show w6.heap[w5.heap.size]? = _; rw [hW]; exact heap_alloc_new _ _
    have HB6 := Lib.hid (HB5.out.trans (hb6.mono HB5.out.size))
    obtain ⟨X6, hX6⟩ : ∃ X, X = w5.heap.size := ⟨_, rfl⟩
    rw [← hX6] at k6
    have K6 := Lib.hid k6
    have c6 := blk_cell K6.out (i := 0) rfl
    have c6_1 := blk_cell K6.out (i := 1) rfl
    have c6_2 := blk_cell K6.out (i := 2) rfl
    have c6_3 := blk_cell K6.out (i := 3) rfl
    have c6_4 := blk_cell K6.out (i := 4) rfl
    have c6_5 := blk_cell K6.out (i := 5) rfl
    have c6_6 := blk_cell K6.out (i := 6) rfl
    have c6_7 := blk_cell K6.out (i := 7) rfl
    have c6_8 := blk_cell K6.out (i := 8) rfl
    have l6 := K6.out.lt
    clear hb6 k6
    have HCW := Lib.hid (HFA.out rfl w6 HB6.out)
    have HV1 := Lib.hid (HE1.out.trans (if_neg (by simp)))
    have HV2 := Lib.hid (HE2.out.trans (if_neg (by simp)))
    clear HFA HE1 HE2
    go_wp2_with fail
    rw [← hW]
    simp only [← hX6]
    clear hW hX6
    refine HCW.out.mono ?_
    rintro e7 w7 ⟨a', n', c', rfl, hb7, hr⟩
    have HK := Lib.hid (And.intro hb7 hr)
    clear hb7 hr
    go_wp2_with fail
    refine (t_unless_any _ _ _).mono ?_
    rintro e8 w8 ⟨rfl, rfl⟩
    go_wp2
    go_ret2
    exact ⟨a', n', c', by first | (rw [HV1.out]; done) | (rw [HV1.out]; rfl), HB6.out.trans (HK.out.1.mono HB6.out.size), by rw [HV2.out]; exact HK.out.2⟩
  · have e1 := bne_iff_ne.2 h0
    have HV1 := Lib.hid (HE1.out.trans (if_pos h0))
    have HV2 := Lib.hid (HE2.out.trans (if_pos h0))
    clear h0 HFA HE1 HE2
    go_wp2
    go_ret2
    exact ⟨none, 0, 0, by first | (rw [HV1.out]; done) | (rw [HV1.out]; rfl), HB5.out.alloc HB5.out.size _, by rw [HV2.out]; exact IntsR.nil _ _⟩
set_option maxHeartbeats 1000000 in
set_option maxRecDepth 100000 in
theorem invariantOf_any (m : Mac) (l : Lim) (ab ag : Option Addr) (nb cb ng cg : Nat) (w : World) (hb : BrR w ab nb m.br) (hg : GrR w ag ng m.gs) :
    Calls Tryz.prog 70 #[.agg #[.slice ab nb cb, .int .i64 m.st, .slice ag ng cg], .agg #[.int .i64 l.volt, .int .i64 l.lo, .int .i64 l.hi, .int .i64 l.circ, .int .i64 l.brk, .int .i64 l.ret]] w
      fun e' w' => ∃ a' n' c', e' = .returned (.tuple #[.slice a' n' c', .int .i64 (invE m l)]) ∧ Below w.heap.size w w' ∧ IntsR w' a' n' (nats (invL m l)) := by
  have HO := Lib.hid (fun (W : World) (hbw : Below w.heap.size w W) => open_any m l ab ag nb cb ng cg W (hb.below hbw) (hg.below hbw))
  have HFA := Lib.hid (fun (h : opnE m l = 0) (W : World) (hbw : Below w.heap.size w W) => failure_any m l ab ag nb cb ng cg W (opnE_zero h).1 (opnE_zero h).2 (hb.below hbw) (hg.below hbw))
  have HRE := Lib.hid (fun (h : opnE m l = 0) (W : World) (hbw : Below w.heap.size w W) => reachable_any m ab ag nb cb ng cg W (opnE_zero h).1 hb.len (hg.below hbw))
  have hE1 : invE m l = if opnE m l ≠ 0 then opnE m l else unl (!(faiV m l).isSome) 12 := rfl
  have hE2 : invL m l = if invE m l ≠ 0 then [] else reaS m := rfl
  rw [show firstErr [(macE m).2, limE l] = opnE m l from rfl] at HO
  generalize invE m l = V1 at *
  generalize invL m l = V2 at *
  generalize opnE m l = E at *
  generalize faiV m l = FV at *
  have HE1 := Lib.hid hE1
  have HE2 := Lib.hid hE2
  obtain ⟨vo, lo, hi, ci, br, re⟩ := l
  obtain ⟨st, hst⟩ : ∃ x, x = m.st := ⟨_, rfl⟩
  rw [← hst] at HO HFA HRE ⊢
  simp only at HO HFA ⊢
  clear hb hg hst hE1 hE2
  go_enter Tryz.func70, Tryz.ntmps70
  go_wp2_with fail
  refine (HO.out _ (by (repeat' (first | (with_reducible exact Below.refl _ _) | (with_reducible assumption) | (with_reducible refine Below.drewN ?_ _) | (with_reducible refine Below.alloc ?_ ?_ _) | (with_reducible refine Below.drew ?_) | (with_reducible refine Below.setCell ?_ ?_ _) | (with_reducible refine Below.step (by assumption) ?_ ?_) | (with_reducible exact And.left (by assumption)) | go_size)))).mono ?_
  rintro e5 w5 ⟨rfl, hb5⟩
  have HB5 := Lib.hid (show Below w.heap.size w w5 by (repeat' (first | (with_reducible exact Below.refl _ _) | (with_reducible assumption) | (with_reducible refine Below.drewN ?_ _) | (with_reducible refine Below.alloc ?_ ?_ _) | (with_reducible refine Below.drew ?_) | (with_reducible refine Below.setCell ?_ ?_ _) | (with_reducible refine Below.step (by assumption) ?_ ?_) | (with_reducible exact And.left (by assumption)) | go_size)))
  clear hb5 HO
  by_cases h0 : E = 0
  · subst h0
    obtain ⟨w6, hW⟩ : ∃ w6, w6 = w5.alloc (Obj.cells #[.slice ab nb cb, .int .i64 st, .slice ag ng cg, .int .i64 vo, .int .i64 lo, .int .i64 hi, .int .i64 ci, .int .i64 br, .int .i64 re] 164) := ⟨_, rfl⟩
    have hb6 : Below w5.heap.size w5 w6 := by rw [hW]; (repeat' (first | (with_reducible exact Below.refl _ _) | (with_reducible assumption) | (with_reducible refine Below.drewN ?_ _) | (with_reducible refine Below.alloc ?_ ?_ _) | (with_reducible refine Below.drew ?_) | (with_reducible refine Below.setCell ?_ ?_ _) | (with_reducible refine Below.step (by assumption) ?_ ?_) | (with_reducible exact And.left (by assumption)) | go_size))
    have k6 : BlkR w6 w5.heap.size (.cells #[.slice ab nb cb, .int .i64 st, .slice ag ng cg, .int .i64 vo, .int .i64 lo, .int .i64 hi, .int .i64 ci, .int .i64 br, .int .i64 re] 164) := by show w6.heap[w5.heap.size]? = _; rw [hW]; exact heap_alloc_new _ _
    have HB6 := Lib.hid (HB5.out.trans (hb6.mono HB5.out.size))
    obtain ⟨X6, hX6⟩ : ∃ X, X = w5.heap.size := ⟨_, rfl⟩
    rw [← hX6] at k6
    have K6 := Lib.hid k6
    have c6 := blk_cell K6.out (i := 0) rfl
    have c6_1 := blk_cell K6.out (i := 1) rfl
    have c6_2 := blk_cell K6.out (i := 2) rfl
    have c6_3 := blk_cell K6.out (i := 3) rfl
    have c6_4 := blk_cell K6.out (i := 4) rfl
    have c6_5 := blk_cell K6.out (i := 5) rfl
    have c6_6 := blk_cell K6.out (i := 6) rfl
    have c6_7 := blk_cell K6.out (i := 7) rfl
    have c6_8 := blk_cell K6.out (i := 8) rfl
    have l6 := K6.out.lt
    clear hb6 k6
    have HCW := Lib.hid (HFA.out rfl w6 HB6.out)
    have HV1 := Lib.hid (HE1.out.trans (if_neg (by simp)))
    have HRX := Lib.hid (HRE.out rfl)
    clear HFA HE1 HRE
    generalize FV.getD [] = FL at *
    go_wp2_with fail
    rw [← hW]
    simp only [← hX6]
    clear hW hX6
    refine HCW.out.mono ?_
    rintro e7 w7 ⟨a', n', c', rfl, hb7, hr⟩
    have HB7 := Lib.hid (HB6.out.trans (hb7.mono HB6.out.size))
    have K6 := Lib.hid (K6.out.below hb7)
    clear hb7 hr c6 c6_1 c6_2 c6_3 c6_4 c6_5 c6_6 c6_7 c6_8 l6
    have c6 := blk_cell K6.out (i := 0) rfl
    have c6_1 := blk_cell K6.out (i := 1) rfl
    have c6_2 := blk_cell K6.out (i := 2) rfl
    have c6_3 := blk_cell K6.out (i := 3) rfl
    have c6_4 := blk_cell K6.out (i := 4) rfl
    have c6_5 := blk_cell K6.out (i := 5) rfl
    have c6_6 := blk_cell K6.out (i := 6) rfl
    have c6_7 := blk_cell K6.out (i := 7) rfl
    have c6_8 := blk_cell K6.out (i := 8) rfl
    have l6 := K6.out.lt
    have HRW := Lib.hid (HRX.out w7 HB7.out)
    generalize FV.isSome = FB at *
    cases FB
    · have HV2 := Lib.hid (show V2 = reaS m from HE2.out.trans (by rw [HV1.out]; exact if_neg (by decide)))
      have HV3 := Lib.hid (show V1 = 0 from HV1.out)
      go_wp2_with fail
      refine HRW.out.mono ?_
      rintro e8 w8 ⟨a2, n2, c2, rfl, hb8, hr8⟩
      have HK := Lib.hid (And.intro hb8 hr8)
      clear hb8 hr8
      go_wp2
      go_ret2
      exact ⟨a2, n2, c2, by first | (rw [HV3.out]; done) | (rw [HV3.out]; rfl), HB7.out.trans (HK.out.1.mono HB7.out.size), by rw [HV2.out]; exact HK.out.2⟩
    · have HV2 := Lib.hid (show V2 = [] from HE2.out.trans (by rw [HV1.out]; exact if_pos (by decide)))
      have HV3 := Lib.hid (show V1 = 12 from HV1.out)
      go_wp2
      go_ret2
      exact ⟨none, 0, 0, by first | (rw [HV3.out]; done) | (rw [HV3.out]; rfl), HB7.out, by rw [HV2.out]; exact IntsR.nil _ _⟩
  · have e1 := bne_iff_ne.2 h0
    have HV1 := Lib.hid (HE1.out.trans (if_pos h0))
    have HV2 := Lib.hid (show V2 = [] from HE2.out.trans (by rw [HV1.out]; exact if_pos h0))
    clear h0 HFA HE1 HE2 HRE
    go_wp2
    go_ret2
    exact ⟨none, 0, 0, by first | (rw [HV1.out]; done) | (rw [HV1.out]; rfl), HB5.out.alloc HB5.out.size _, by rw [HV2.out]; exact IntsR.nil _ _⟩
end Go.Proofs.YtidboecjllaofaaGreat
