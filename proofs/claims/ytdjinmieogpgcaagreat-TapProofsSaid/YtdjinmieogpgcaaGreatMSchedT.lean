import Derived.Test.YtdjinmieogpgcaaGreatMBlk
/- A region that draws its order, by a tree of schedules: reads first, forced operations, and forks where one of two comes. -/
namespace Go.Proofs.YtdjinmieogpgcaaGreat
open Go.RowKit
inductive Sch where
 | done : Sch
 | head : Nat → Sch → Sch
 | one : Nat → Sch → Sch
 | two : Nat → Sch → Nat → Sch → Sch
 | three : Nat → Sch → Nat → Sch → Nat → Sch → Sch
def Sch.depth : Sch → Nat
 | .done => 0
 | .head _ k => k.depth + 1
 | .one _ k => k.depth + 1
 | .two _ k _ l => max k.depth l.depth + 1
 | .three _ k _ l _ n => max k.depth (max l.depth n.depth) + 1
section
variable {P : Program} {l : List Oper} {md : Region.Mode} {S : World → Prop} {Q : Exit → Act → World → Prop}
def treeB (md : Region.Mode) (ops : Array Oper) : Sch → Array Bool → Bool
 | .done, listed => decide (Region.ready md ops listed = [])
 | .head h k, listed => (Region.ready md ops listed).contains h && Region.free md ops listed h && (match ops[h]? with | some o => plainOp o | none => false) && treeB md ops k (listed.setIfInBounds h true)
 | .one t k, listed => decide (Region.ready md ops listed = [t]) && decide (t < ops.size) && treeB md ops k (listed.setIfInBounds t true)
 | .two i k j m, listed => decide (Region.ready md ops listed = [i, j]) && decide (i < ops.size) && decide (j < ops.size) && treeB md ops k (listed.setIfInBounds i true) && treeB md ops m (listed.setIfInBounds j true)
 | .three i k j m t n, listed => decide (Region.ready md ops listed = [i, j, t]) && decide (i < ops.size) && decide (j < ops.size) && decide (t < ops.size) && treeB md ops k (listed.setIfInBounds i true) && treeB md ops m (listed.setIfInBounds j true) && treeB md ops n (listed.setIfInBounds t true)
def wpTree (P : Program) (l : List Oper) (S : World → Prop) (Q : Exit → Act → World → Prop) : Sch → Act → World → Prop
 | .done, a, w => Q .normal a w
 | .head h k, a, w => match l[h]? with | some o => wpQuiet P l.toArray S (fun a' => wpTree P l S Q k a' w) [o] a | none => False
 | .one t k, a, w => match l[t]? with | some o => wpList P l.toArray (tailQ S Q (wpTree P l S Q k)) [o] a w | none => False
 | .two i k j m, a, w => (match l[i]? with | some o => wpList P l.toArray (tailQ S Q (wpTree P l S Q k)) [o] a w | none => False) ∧
     (match l[j]? with | some o => wpList P l.toArray (tailQ S Q (wpTree P l S Q m)) [o] a w | none => False)
 | .three i k j m t n, a, w => (match l[i]? with | some o => wpList P l.toArray (tailQ S Q (wpTree P l S Q k)) [o] a w | none => False) ∧
     (match l[j]? with | some o => wpList P l.toArray (tailQ S Q (wpTree P l S Q m)) [o] a w | none => False) ∧
     (match l[t]? with | some o => wpList P l.toArray (tailQ S Q (wpTree P l S Q n)) [o] a w | none => False)
theorem tree_anyH (hsel : Region.noSelect l.toArray = true) : ∀ (s : Sch) (fuel : Nat) (listed : Array Bool) (a : Act) (w : World), s.depth ≤ fuel → treeB md l.toArray s listed = true → S w →
    wpTree P l S Q s a w → wpAnyH P md l.toArray (NoPanic Q) S fuel listed a w
 | .done, fuel, listed, a, w, _, hB, _, h => by
  simp only [treeB, decide_eq_true_eq] at hB
  exact wpAnyH_done (Q := NoPanic Q) hB h fuel
 | .head x k, 0, listed, a, w, hd, _, _, _ => by simp [Sch.depth] at hd
 | .one x k, 0, listed, a, w, hd, _, _, _ => by simp [Sch.depth] at hd
 | .two x k y m, 0, listed, a, w, hd, _, _, _ => by simp [Sch.depth] at hd
 | .three x k y m t n, 0, listed, a, w, hd, _, _, _ => by simp [Sch.depth] at hd
 | .head x k, fuel + 1, listed, a, w, hd, hB, hS, h => by
  simp only [treeB, Bool.and_eq_true] at hB
  simp only [Sch.depth] at hd
  have hx : x < l.length := by
   have h2 := hB.1.2
   by_cases hx : x < l.length
   ·exact hx
   ·rw [Array.getElem?_eq_none (by simpa using hx)] at h2; cases h2
  have ho : l.toArray[x]? = some l[x] := by simp [hx]
  have ho' : l[x]? = some l[x] := by simp [hx]
  rw [ho] at hB
  simp only [wpTree, ho'] at h
  have hst : qOp P l.toArray S x (wpQuiet P l.toArray S (fun a' => wpTree P l S Q k a' w) []) a := by unfold qOp; simp only [ho]; exact h
  obtain ⟨v, hy, hK⟩ := yieldsIn_of_qOp ho hst
  exact wpAnyH_take ho hsel hB.1.1.2 hB.1.1.1 (fun _ _ _ h => h.elim) (yieldsIf_of_in hB.1.2 hy) hS (tree_anyH hsel k fuel _ _ w (by omega) hB.2 hS hK)
 | .one t k, fuel + 1, listed, a, w, hd, hB, hS, h => by
  simp only [treeB, Bool.and_eq_true, decide_eq_true_eq] at hB
  simp only [Sch.depth] at hd
  have ht : t < l.length := by simpa using hB.1.2
  have ho : l.toArray[t]? = some l[t] := by simp [ht]
  have ho' : l[t]? = some l[t] := by simp [ht]
  simp only [wpTree, ho'] at h
  refine wpAnyH_all hB.1.1 (by simp) (fun i hi => ?_)
  have hit : i = t := by simpa using hi
  subst hit
  exact wpOp_mono (fun a' w' hh => ⟨hh.1, tree_anyH hsel k fuel _ a' w' (by omega) hB.2 hh.1 hh.2⟩) (wpOp_of_tail ho h)
 | .two x k y m, fuel + 1, listed, a, w, hd, hB, hS, h => by
  simp only [treeB, Bool.and_eq_true, decide_eq_true_eq] at hB
  simp only [Sch.depth] at hd
  obtain ⟨⟨⟨⟨hr, hx⟩, hy⟩, hk⟩, hm⟩ := hB
  have hx' : x < l.length := by simpa using hx
  have hy' : y < l.length := by simpa using hy
  have ho : l.toArray[x]? = some l[x] := by simp [hx']
  have ho' : l[x]? = some l[x] := by simp [hx']
  have hq : l.toArray[y]? = some l[y] := by simp [hy']
  have hq' : l[y]? = some l[y] := by simp [hy']
  simp only [wpTree, ho', hq'] at h
  refine wpAnyH_all hr (by simp) (fun i hi => ?_)
  rcases (by simpa using hi : i = x ∨ i = y) with rfl | rfl
  ·exact wpOp_mono (fun a' w' hh => ⟨hh.1, tree_anyH hsel k fuel _ a' w' (by omega) hk hh.1 hh.2⟩) (wpOp_of_tail ho h.1)
  ·exact wpOp_mono (fun a' w' hh => ⟨hh.1, tree_anyH hsel m fuel _ a' w' (by omega) hm hh.1 hh.2⟩) (wpOp_of_tail hq h.2)
 | .three x k y m z n, fuel + 1, listed, a, w, hd, hB, hS, h => by
  simp only [treeB, Bool.and_eq_true, decide_eq_true_eq] at hB
  simp only [Sch.depth] at hd
  obtain ⟨⟨⟨⟨⟨⟨hr, hx⟩, hy⟩, hz⟩, hk⟩, hm⟩, hn⟩ := hB
  have hx' : x < l.length := by simpa using hx
  have hy' : y < l.length := by simpa using hy
  have hz' : z < l.length := by simpa using hz
  have ho : l.toArray[x]? = some l[x] := by simp [hx']
  have ho' : l[x]? = some l[x] := by simp [hx']
  have hq : l.toArray[y]? = some l[y] := by simp [hy']
  have hq' : l[y]? = some l[y] := by simp [hy']
  have hp : l.toArray[z]? = some l[z] := by simp [hz']
  have hp' : l[z]? = some l[z] := by simp [hz']
  simp only [wpTree, ho', hq', hp'] at h
  refine wpAnyH_all hr (by simp) (fun i hi => ?_)
  rcases (by simpa using hi : i = x ∨ i = y ∨ i = z) with rfl | rfl | rfl
  ·exact wpOp_mono (fun a' w' hh => ⟨hh.1, tree_anyH hsel k fuel _ a' w' (by omega) hk hh.1 hh.2⟩) (wpOp_of_tail ho h.1)
  ·exact wpOp_mono (fun a' w' hh => ⟨hh.1, tree_anyH hsel m fuel _ a' w' (by omega) hm hh.1 hh.2⟩) (wpOp_of_tail hq h.2.1)
  ·exact wpOp_mono (fun a' w' hh => ⟨hh.1, tree_anyH hsel n fuel _ a' w' (by omega) hn hh.1 hh.2⟩) (wpOp_of_tail hp h.2.2)
def treeOk (ops : Array Oper) (s : Sch) : Bool :=
 Region.noSelect ops && decide (s.depth ≤ ops.size) && treeB .any ops s (Array.replicate ops.size false)
theorem wp_region_tree {id : Nat} {a : Act} {w : World} (s : Sch) (S : World → Prop) (hm : P.follows .mixedOrders = true) (hB : treeOk l.toArray s = true) (hS : S w.drew)
    (h : wpTree P l S Q s a w.drew) : (Code.region id l.toArray true).wp P Q a w := by
 simp only [treeOk, Bool.and_eq_true, decide_eq_true_eq] at hB
 refine wp_region_noPanic (wp_region_held (S := S) hm ?_)
 exact tree_anyH hB.1.1 s _ _ a _ hB.1.2 hB.2 hS h
theorem wp_region_laterT {B : Nat} {id : Nat} {a : Act} {w : World} (s : Sch) (hm : P.follows .mixedOrders = true) (hB : treeOk l.toArray s = true)
    (h : wpTree P l (fun w' => ∃ u : LaterB B w, w' = u.world) Q s a w.drew) : (Code.region id l.toArray true).wp P Q a w :=
 wp_region_tree s _ hm hB ⟨⟨_, (Below.refl B w).drew⟩, rfl⟩ h
theorem tree_head {h : Nat} {o : Oper} {k : Sch} {a : Act} {w : World} (ho : l[h]? = some o) (hh : wpQuiet P l.toArray S (fun a' => wpTree P l S Q k a' w) [o] a) : wpTree P l S Q (.head h k) a w := by
 simp only [wpTree, ho]; exact hh
theorem tree_one {t : Nat} {o : Oper} {k : Sch} {a : Act} {w : World} (ho : l[t]? = some o) (hh : wpList P l.toArray (tailQ S Q (wpTree P l S Q k)) [o] a w) : wpTree P l S Q (.one t k) a w := by
 simp only [wpTree, ho]; exact hh
theorem tree_two {i j : Nat} {o o2 : Oper} {k m : Sch} {a : Act} {w : World} (ho : l[i]? = some o) (hq : l[j]? = some o2) (h1 : wpList P l.toArray (tailQ S Q (wpTree P l S Q k)) [o] a w) (h2 : wpList P l.toArray (tailQ S Q (wpTree P l S Q m)) [o2] a w) : wpTree P l S Q (.two i k j m) a w := by
 simp only [wpTree, ho, hq]; exact ⟨h1, h2⟩
theorem tree_done {a : Act} {w : World} (h : Q .normal a w) : wpTree P l S Q .done a w := h
end
end Go.Proofs.YtdjinmieogpgcaaGreat
/- Machines: copies, MachineErr, bothErr, few (the reference and the statements). -/
namespace Go.Proofs.YtdjinmieogpgcaaGreat
open Go.RowKit
set_option linter.unusedVariables false
set_option linter.unusedSimpArgs false
theorem infoBr : (Tryz.prog.info? 126).map (fun i => (i.zero, i.size, i.bytes)) = some (some (.agg #[.int .i64 0, .int .i64 0]), 2, 16) := by kernel_rfl
theorem infoGr : (Tryz.prog.info? 77).map (fun i => (i.zero, i.size, i.bytes)) = some (some (.agg #[.int .i64 0, .bool false, .int .i64 0, .int .i64 0]), 4, 32) := by kernel_rfl
theorem machineErr_any (m : Mac) (ab ag : Option Addr) (nb cb ng cg : Nat) (w : World) (hb : BrR w ab nb m.br) (hg : GrR w ag ng m.gs) :
    Calls Tryz.prog 54 #[.agg #[.slice ab nb cb, .int .i64 m.st, .slice ag ng cg]] w fun e' w' => e' = .returned (.int .i64 (macE m).2) ∧ Below w.heap.size w w' := by
 have HC := Lib.hid (fun (W : World) (hbw : Below w.heap.size w W) => rCheckMachine_any m ab ag nb cb ng cg W (hb.below hbw) (hg.below hbw))
 generalize macE m = E at *
 obtain ⟨k, e⟩ := E
 simp only at HC ⊢
 clear hb hg
 go_enter Tryz.func54, Tryz.ntmps54
 go_wp2_with fail
 refine (HC.out _ (by (first|exact bwg|go_size))).mono ?_
 rintro e5 w5 ⟨rfl, hb5⟩
 go_wp2
 go_ret
 exact ⟨rfl, by (first|exact bwg|go_size)⟩
theorem bothErr_any (m : Mac) (l : Lim) (ab ag : Option Addr) (nb cb ng cg : Nat) (w : World) (hb : BrR w ab nb m.br) (hg : GrR w ag ng m.gs) :
    Calls Tryz.prog 19 #[.agg #[.slice ab nb cb, .int .i64 m.st, .slice ag ng cg], .agg #[.int .i64 l.volt, .int .i64 l.lo, .int .i64 l.hi, .int .i64 l.circ, .int .i64 l.brk, .int .i64 l.ret]] w fun e' w' => e' = .returned (.int .i64 (firstErr [(macE m).2, limE l])) ∧ Below w.heap.size w w' := by
 have HC := Lib.hid (fun (W : World) (hbw : Below w.heap.size w W) => machineErr_any m ab ag nb cb ng cg W (hb.below hbw) (hg.below hbw))
 have HL := Lib.hid (fun (W : World) => rLimE_any l W)
 generalize (macE m).2 = E at *
 generalize limE l = E2 at *
 obtain ⟨vo, lo, hi, ci, br, re⟩ := l
 obtain ⟨V, hV⟩ : ∃ V, V = firstErr [E, E2] := ⟨_, rfl⟩
 have HV := Lib.hid hV
 rw [← hV]
 simp only at HL ⊢
 clear hb hg hV
 go_enter Tryz.func19, Tryz.ntmps19
 go_wp2_with fail
 refine (HC.out _ (by (first|exact bwg|go_size))).mono ?_
 rintro e5 w5 ⟨rfl, hb5⟩
 have hz5 := hb5.size
 simp only [World.size_alloc] at hz5
 have q0 : w5.cell? ⟨w.heap.size + 1, 0, none⟩ = some (.int .i64 vo) := bwc hb5; have q1 : w5.cell? ⟨w.heap.size + 1, 1, none⟩ = some (.int .i64 lo) := bwc hb5; have q2 : w5.cell? ⟨w.heap.size + 1, 2, none⟩ = some (.int .i64 hi) := bwc hb5; have q3 : w5.cell? ⟨w.heap.size + 1, 3, none⟩ = some (.int .i64 ci) := bwc hb5; have q4 : w5.cell? ⟨w.heap.size + 1, 4, none⟩ = some (.int .i64 br) := bwc hb5; have q5 : w5.cell? ⟨w.heap.size + 1, 5, none⟩ = some (.int .i64 re) := bwc hb5; have l5 : w.heap.size + 1 < w5.heap.size := by { omega }
 have HB5 := Lib.hid (show Below w.heap.size w w5 by (first|exact bwg|go_size))
 clear hb5 hz5
 by_cases h : E = 0
 ·subst h
  go_wp2_with fail
  refine (HL.out _).mono ?_
  rintro e6 w6 ⟨rfl, hb6⟩
  go_wp2
  go_ret
  exact ⟨ret_int (by rw [HV.out]; show E2 = if E2 = 0 then 0 else E2; split <;> simp_all), HB5.out.trans (hb6.mono HB5.out.size)⟩
 ·have e1 := bne_iff_ne.2 h
  go_wp2
  go_ret
  exact ⟨ret_int (by rw [HV.out]; simp [firstErr, h]), HB5.out⟩
theorem few_any (x : Int) (ab ag : Option Addr) (nb cb ng cg : Nat) (w : World) (h1 : nb ≤ 9223372036854775807) (h2 : ng ≤ 9223372036854775807) :
    Calls Tryz.prog 13 #[.agg #[.slice ab nb cb, .int .i64 x, .slice ag ng cg]] w fun e' w' => e' = .returned (.bool (decide (nb ≤ 8) && decide (ng ≤ 32))) ∧ Below w.heap.size w w' := by
 by_cases h : (nb : Int) ≤ 8
 ·go_enter Tryz.func13, Tryz.ntmps13
  go_wp2
  go_ret
  refine ⟨ret_bool ?_, by (first|exact bwg|go_size)⟩
  have e1 : decide (nb ≤ 8) = true := decide_eq_true (by omega)
  have e2 : decide (ng ≤ 32) = decide ((ng : Int) ≤ 32) := by rw [Bool.eq_iff_iff, decide_eq_true_eq, decide_eq_true_eq]; omega
  rw [e1, e2]; rfl
 ·go_enter Tryz.func13, Tryz.ntmps13
  go_wp2
  go_ret
  refine ⟨ret_bool ?_, by (first|exact bwg|go_size)⟩
  have e1 : decide (nb ≤ 8) = false := decide_eq_false (by omega)
  rw [e1]; rfl
theorem own_otherT {w w' : World} {base n sz : Nat} {e : TypeId} {v : Value} {xs : List Value} (h : w.ownsRow base e sz v n xs) (hg : w.grownBy w' v.ownBlock) {t : TypeId} (ht : e ≠ t) : ∀ (B : Nat) cur z, w.heap[B]? = some (.cells cur t z) → w'.heap[B]? = some (.cells cur t z) := fun B cur z hB => by
 rw [hg.block B (Array.getElem?_eq_some_iff.1 hB).1 (fun e => ?_)]
 ·exact hB
 ·rcases h.2 with ⟨rfl, _⟩ | ⟨g, cap, cur', rfl, _, hgg, _⟩
  ·simp [Value.ownBlock] at e
  ·simp only [Value.ownBlock, Option.some.injEq] at e
   subst e
   rw [hgg] at hB
   simp only [Option.some.injEq, Obj.cells.injEq] at hB
   exact absurd hB.2.1 ht
theorem owns_typed {w w' : World} {base n sz : Nat} {t : TypeId} {v : Value} {xs : List Value} (h : w.ownsRow base t sz v n xs) (hk : ∀ (B : Nat) cur z, w.heap[B]? = some (.cells cur t z) → w'.heap[B]? = some (.cells cur t z)) : w'.ownsRow base t sz v n xs :=
 ⟨h.1, h.2.imp id (fun ⟨g, cap, cur, hv, hb, hg, r⟩ => ⟨g, cap, cur, hv, hb, hk _ _ _ hg, r⟩)⟩
set_option maxHeartbeats 2000000 in
set_option maxRecDepth 100000 in
theorem copyM_any (m : Mac) (ab ag : Option Addr) (nb cb ng cg : Nat) (w : World) (hb : BrR w ab nb m.br) (hg : GrR w ag ng m.gs) (h1 : nb ≤ 100000) (h2 : ng ≤ 100000) :
    Calls Tryz.prog 15 #[.agg #[.slice ab nb cb, .int .i64 m.st, .slice ag ng cg]] w fun e' w' => ∃ a1 c1 a2 c2, e' = .returned (.agg #[.slice a1 nb c1, .int .i64 m.st, .slice a2 ng c2]) ∧ Below w.heap.size w w' ∧ BrR w' a1 nb m.br ∧ GrR w' a2 ng m.gs := by
 have HBR := Lib.hid (fun (W : World) (hbw : Below w.heap.size w W) => hb.below hbw)
 have HGR := Lib.hid (fun (W : World) (hbw : Below w.heap.size w W) => hg.below hbw)
 have HLB := Lib.hid hb.len
 have HLG := Lib.hid hg.len
 clear hb hg
 go_enter Tryz.func15, Tryz.ntmps15
 go_wp2_with fail
 obtain ⟨w1, hW⟩ : ∃ w1, w1 = (w.alloc (Obj.cells #[.slice ab nb cb, .int .i64 m.st, .slice ag ng cg] 45)).alloc (Obj.cells #[.slice none 0 0, .int .i64 0, .slice none 0 0] 45) := ⟨_, rfl⟩
 rw [← hW]
 have hb1 : Below w.heap.size w w1 := by rw [hW]; (first|exact bwg|go_size)
 have hs1 : w1.heap.size = w.heap.size + 1 + 1 := by rw [hW]; simp
 have k1 : w1.heap[w.heap.size]? = some (.cells #[.slice ab nb cb, .int .i64 m.st, .slice ag ng cg] 45) := by rw [hW, Below.heap_alloc _ _ _ (by simp)]; exact heap_alloc_new _ _
 have k2 : w1.heap[w.heap.size + 1]? = some (.cells #[.slice none 0 0, .int .i64 0, .slice none 0 0] 45) := by
  rw [hW]
  have := heap_alloc_new (w.alloc (Obj.cells #[.slice ab nb cb, .int .i64 m.st, .slice ag ng cg] 45)) (Obj.cells #[.slice none 0 0, .int .i64 0, .slice none 0 0] 45)
  simpa using this
 obtain ⟨q0, q1, q2, lr0⟩ := blkc3 k1
 have hB12 : w.heap.size + 1 ≤ w1.heap.size := by omega
 have hB13 : w.heap.size + 1 < w1.heap.size := by omega
 have HB1 := Lib.hid hb1
 clear hW hb1 k1 hs1
 have HN := Lib.hid (Below.refl w1.heap.size w1).drew
 refine wp_region_laterT (B := w.heap.size + 1) (.head 1 (.head 2 (.head 4 (.head 5 (.head 7 (.head 8 (.two 0 (.two 3 (.one 6 (.one 9 (.head 10 (.one 11 .done)))) 6 (.one 3 (.one 9 (.head 10 (.one 11 .done))))) 6 (.one 0 (.one 3 (.one 9 (.head 10 (.one 11 .done)))))))))))) (by kernel_rfl) (by kernel_rfl) ?_
 repeat (refine tree_head rfl ?_; (show wpQuiet _ _ _ _ (_ :: _) _; go_big_quiet_step (fail)); refine wpQuiet_nil ?_)
 refine tree_two rfl rfl ?_ ?_
 ·go_wp2_with fail
  have hbx : Below w1.heap.size w1 ((w1.alloc (Obj.cells #[] 126)).drew) := by (first|exact bwg|go_size)
  have hox := (World.ownsRow_made (base := w1.heap.size) (e := 126) (size := 2) w1 #[] 0 (by first | exact HN.out.size | exact Nat.le_refl _) (by simp [maxLen]) rfl).drew
  generalize (w1.alloc (Obj.cells #[] 126)).drew = wa at *
  skip
  replace HN := Lib.hid (hbx)
  have HOB := Lib.hid hox
  clear hbx hox
  refine tailL_mk (HN.out.mono hB12) ?_
  repeat (refine tree_head rfl ?_; (show wpQuiet _ _ _ _ (_ :: _) _; go_big_quiet_step (fail)); refine wpQuiet_nil ?_)
  refine tree_two rfl rfl ?_ ?_
  ·skip
   go_wp2_with (at_builtin; refine wpList_append_sl _ rfl _ _ 42 rfl w1.heap.size 126 _ 2 16 Tryz.underlying42 infoBr rfl (by omega) _ 0 _ rfl HOB.out _ nb cb (ecells eB m.br) rfl (HBR.out _ (HB1.out.trans (HN.out.mono HB1.out.size))).2 (ecells_ones eB_one m.br) (by omega) (by omega) (by have := HN.out.size; omega) ?_)
   intro v2 wb hown2 hgr2 hb2
   obtain ⟨aB, cB, rfl, _, _⟩ := owns_slice hown2
   skip
   replace HN := Lib.hid (HN.out.trans hb2)
   have HOB := Lib.hid hown2
   clear hown2 hgr2 hb2
   go_wp2_with fail
   refine tailL_mk (HN.out.mono hB12) ?_
   repeat (refine tree_head rfl ?_; (show wpQuiet _ _ _ _ (_ :: _) _; go_big_quiet_step (fail)); refine wpQuiet_nil ?_)
   refine tree_one rfl ?_; go_wp2_with fail
   have hbx : Below wb.heap.size wb ((wb.alloc (Obj.cells #[] 77))) := by (first|exact bwg|go_size)
   have hox := (World.ownsRow_made (base := w1.heap.size) (e := 77) (size := 4) wb #[] 0 (by first | exact HN.out.size | exact Nat.le_refl _) (by simp [maxLen]) rfl)
   generalize (wb.alloc (Obj.cells #[] 77)) = wc at *
   replace HOB := Lib.hid (owns_below HOB.out hbx (fun z hz => (HOB.out.lt z hz).2))
   replace HN := bwt HN hbx
   have HOG := Lib.hid hox
   clear hbx hox
   refine tailL_mk (HN.out.mono hB12) ?_
   repeat (refine tree_head rfl ?_; (show wpQuiet _ _ _ _ (_ :: _) _; go_big_quiet_step (fail)); refine wpQuiet_nil ?_)
   refine tree_one rfl ?_
   go_wp2_with (at_builtin; refine wpList_append_sl _ rfl _ _ 43 rfl w1.heap.size 77 _ 4 32 Tryz.underlying43 infoGr rfl (by omega) _ 0 _ rfl HOG.out _ ng cg (ecells eG m.gs) rfl (HGR.out _ (HB1.out.trans (HN.out.mono HB1.out.size))).2 (ecells_ones eG_one m.gs) (by omega) (by omega) (by have := HN.out.size; omega) ?_)
   intro v3 wd hown2 hgr2 hb2
   obtain ⟨aG, cG, rfl, _, _⟩ := owns_slice hown2
   replace HOB := Lib.hid (owns_typed HOB.out (own_otherT HOG.out hgr2 (by decide)))
   replace HN := Lib.hid (HN.out.trans hb2)
   have HOG := Lib.hid hown2
   clear hown2 hgr2 hb2
   go_wp2_with fail
   refine tailL_mk (HN.out.mono hB12) ?_
   repeat (refine tree_head rfl ?_; (show wpQuiet _ _ _ _ (_ :: _) _; go_big_quiet_step (fail)); refine wpQuiet_nil ?_)
   refine tree_one rfl ?_
   have hzx := HN.out.size
   have kx := (HN.out.block (w.heap.size + 1) (by omega)).trans k2
   obtain ⟨c0, c1, c2, _⟩ := blkc3 kx
   have f0 := blk_fz kx 0
   have f1 := blk_fz kx 1
   have f2 := blk_fz kx 2
   have HKX := Lib.hid kx
   clear kx
   go_wp2_with fail
   refine tailL_mk (.setCell (.setCell (.setCell (HN.out.mono hB12) (by simp) _) (by simp) _) (by simp) _) ?_
   refine tree_done ?_
   go_wp2_with fail
   have kz := blk_set (blk_set (blk_set HKX.out 0 (.slice aB (0 + nb) cB)) 1 (.int .i64 m.st)) 2 (.slice aG (0 + ng) cG)
   have hbz := Below.setCell (Below.setCell (Below.setCell (HN.out.mono hB12) (p := ⟨w.heap.size + 1, 0, none⟩) (Nat.le_refl _) (.slice aB (0 + nb) cB)) (p := ⟨w.heap.size + 1, 1, none⟩) (Nat.le_refl _) (.int .i64 m.st)) (p := ⟨w.heap.size + 1, 2, none⟩) (Nat.le_refl _) (.slice aG (0 + ng) cG)
   have hoB := ownsRow_setCell_below (ownsRow_setCell_below (ownsRow_setCell_below HOB.out (a := ⟨w.heap.size + 1, 0, none⟩) hB13 (.slice aB (0 + nb) cB)) (a := ⟨w.heap.size + 1, 1, none⟩) hB13 (.int .i64 m.st)) (a := ⟨w.heap.size + 1, 2, none⟩) hB13 (.slice aG (0 + ng) cG)
   have hoG := ownsRow_setCell_below (ownsRow_setCell_below (ownsRow_setCell_below HOG.out (a := ⟨w.heap.size + 1, 0, none⟩) hB13 (.slice aB (0 + nb) cB)) (a := ⟨w.heap.size + 1, 1, none⟩) hB13 (.int .i64 m.st)) (a := ⟨w.heap.size + 1, 2, none⟩) hB13 (.slice aG (0 + ng) cG)
   simp only [Nat.zero_add, List.nil_append] at kz hbz hoB hoG
   generalize World.setCell (World.setCell (World.setCell _ _ _) _ _) _ _ = wz at *
   obtain ⟨r0, r1, r2, _⟩ := blkc3 kz
   refine bodyPost_ret (v := .agg #[.slice aB nb cB, .int .i64 m.st, .slice aG ng cG]) (by simp [results, Tryz.results15, go_sem, r0, r1, r2]) rfl ⟨aB, cB, aG, cG, rfl, HB1.out.trans (hbz.mono (by omega)), ER.of_owns HLB.out hoB, ER.of_owns HLG.out hoG⟩
  ·go_wp2_with fail
   have hbx : Below wa.heap.size wa ((wa.alloc (Obj.cells #[] 77))) := by (first|exact bwg|go_size)
   have hox := (World.ownsRow_made (base := w1.heap.size) (e := 77) (size := 4) wa #[] 0 (by first | exact HN.out.size | exact Nat.le_refl _) (by simp [maxLen]) rfl)
   generalize (wa.alloc (Obj.cells #[] 77)) = wc at *
   replace HOB := Lib.hid (owns_below HOB.out hbx (fun z hz => (HOB.out.lt z hz).2))
   replace HN := bwt HN hbx
   have HOG := Lib.hid hox
   clear hbx hox
   refine tailL_mk (HN.out.mono hB12) ?_
   repeat (refine tree_head rfl ?_; (show wpQuiet _ _ _ _ (_ :: _) _; go_big_quiet_step (fail)); refine wpQuiet_nil ?_)
   refine tree_one rfl ?_
   go_wp2_with (at_builtin; refine wpList_append_sl _ rfl _ _ 42 rfl w1.heap.size 126 _ 2 16 Tryz.underlying42 infoBr rfl (by omega) _ 0 _ rfl HOB.out _ nb cb (ecells eB m.br) rfl (HBR.out _ (HB1.out.trans (HN.out.mono HB1.out.size))).2 (ecells_ones eB_one m.br) (by omega) (by omega) (by have := HN.out.size; omega) ?_)
   intro v2 wb hown2 hgr2 hb2
   obtain ⟨aB, cB, rfl, _, _⟩ := owns_slice hown2
   replace HOG := Lib.hid (owns_typed HOG.out (own_otherT HOB.out hgr2 (by decide)))
   replace HN := Lib.hid (HN.out.trans hb2)
   have HOB := Lib.hid hown2
   clear hown2 hgr2 hb2
   go_wp2_with fail
   refine tailL_mk (HN.out.mono hB12) ?_
   repeat (refine tree_head rfl ?_; (show wpQuiet _ _ _ _ (_ :: _) _; go_big_quiet_step (fail)); refine wpQuiet_nil ?_)
   refine tree_one rfl ?_
   go_wp2_with (at_builtin; refine wpList_append_sl _ rfl _ _ 43 rfl w1.heap.size 77 _ 4 32 Tryz.underlying43 infoGr rfl (by omega) _ 0 _ rfl HOG.out _ ng cg (ecells eG m.gs) rfl (HGR.out _ (HB1.out.trans (HN.out.mono HB1.out.size))).2 (ecells_ones eG_one m.gs) (by omega) (by omega) (by have := HN.out.size; omega) ?_)
   intro v3 wd hown2 hgr2 hb2
   obtain ⟨aG, cG, rfl, _, _⟩ := owns_slice hown2
   replace HOB := Lib.hid (owns_typed HOB.out (own_otherT HOG.out hgr2 (by decide)))
   replace HN := Lib.hid (HN.out.trans hb2)
   have HOG := Lib.hid hown2
   clear hown2 hgr2 hb2
   go_wp2_with fail
   refine tailL_mk (HN.out.mono hB12) ?_
   repeat (refine tree_head rfl ?_; (show wpQuiet _ _ _ _ (_ :: _) _; go_big_quiet_step (fail)); refine wpQuiet_nil ?_)
   refine tree_one rfl ?_
   have hzx := HN.out.size
   have kx := (HN.out.block (w.heap.size + 1) (by omega)).trans k2
   obtain ⟨c0, c1, c2, _⟩ := blkc3 kx
   have f0 := blk_fz kx 0
   have f1 := blk_fz kx 1
   have f2 := blk_fz kx 2
   have HKX := Lib.hid kx
   clear kx
   go_wp2_with fail
   refine tailL_mk (.setCell (.setCell (.setCell (HN.out.mono hB12) (by simp) _) (by simp) _) (by simp) _) ?_
   refine tree_done ?_
   go_wp2_with fail
   have kz := blk_set (blk_set (blk_set HKX.out 0 (.slice aB (0 + nb) cB)) 1 (.int .i64 m.st)) 2 (.slice aG (0 + ng) cG)
   have hbz := Below.setCell (Below.setCell (Below.setCell (HN.out.mono hB12) (p := ⟨w.heap.size + 1, 0, none⟩) (Nat.le_refl _) (.slice aB (0 + nb) cB)) (p := ⟨w.heap.size + 1, 1, none⟩) (Nat.le_refl _) (.int .i64 m.st)) (p := ⟨w.heap.size + 1, 2, none⟩) (Nat.le_refl _) (.slice aG (0 + ng) cG)
   have hoB := ownsRow_setCell_below (ownsRow_setCell_below (ownsRow_setCell_below HOB.out (a := ⟨w.heap.size + 1, 0, none⟩) hB13 (.slice aB (0 + nb) cB)) (a := ⟨w.heap.size + 1, 1, none⟩) hB13 (.int .i64 m.st)) (a := ⟨w.heap.size + 1, 2, none⟩) hB13 (.slice aG (0 + ng) cG)
   have hoG := ownsRow_setCell_below (ownsRow_setCell_below (ownsRow_setCell_below HOG.out (a := ⟨w.heap.size + 1, 0, none⟩) hB13 (.slice aB (0 + nb) cB)) (a := ⟨w.heap.size + 1, 1, none⟩) hB13 (.int .i64 m.st)) (a := ⟨w.heap.size + 1, 2, none⟩) hB13 (.slice aG (0 + ng) cG)
   simp only [Nat.zero_add, List.nil_append] at kz hbz hoB hoG
   generalize World.setCell (World.setCell (World.setCell _ _ _) _ _) _ _ = wz at *
   obtain ⟨r0, r1, r2, _⟩ := blkc3 kz
   refine bodyPost_ret (v := .agg #[.slice aB nb cB, .int .i64 m.st, .slice aG ng cG]) (by simp [results, Tryz.results15, go_sem, r0, r1, r2]) rfl ⟨aB, cB, aG, cG, rfl, HB1.out.trans (hbz.mono (by omega)), ER.of_owns HLB.out hoB, ER.of_owns HLG.out hoG⟩
 ·go_wp2_with fail
  have hbx : Below w1.heap.size w1 ((w1.alloc (Obj.cells #[] 77)).drew) := by (first|exact bwg|go_size)
  have hox := (World.ownsRow_made (base := w1.heap.size) (e := 77) (size := 4) w1 #[] 0 (by first | exact HN.out.size | exact Nat.le_refl _) (by simp [maxLen]) rfl).drew
  generalize (w1.alloc (Obj.cells #[] 77)).drew = wa at *
  skip
  replace HN := Lib.hid (hbx)
  have HOG := Lib.hid hox
  clear hbx hox
  refine tailL_mk (HN.out.mono hB12) ?_
  repeat (refine tree_head rfl ?_; (show wpQuiet _ _ _ _ (_ :: _) _; go_big_quiet_step (fail)); refine wpQuiet_nil ?_)
  refine tree_one rfl ?_; go_wp2_with fail
  have hbx : Below wa.heap.size wa ((wa.alloc (Obj.cells #[] 126))) := by (first|exact bwg|go_size)
  have hox := (World.ownsRow_made (base := w1.heap.size) (e := 126) (size := 2) wa #[] 0 (by first | exact HN.out.size | exact Nat.le_refl _) (by simp [maxLen]) rfl)
  generalize (wa.alloc (Obj.cells #[] 126)) = wc at *
  replace HOG := Lib.hid (owns_below HOG.out hbx (fun z hz => (HOG.out.lt z hz).2))
  replace HN := bwt HN hbx
  have HOB := Lib.hid hox
  clear hbx hox
  refine tailL_mk (HN.out.mono hB12) ?_
  repeat (refine tree_head rfl ?_; (show wpQuiet _ _ _ _ (_ :: _) _; go_big_quiet_step (fail)); refine wpQuiet_nil ?_)
  refine tree_one rfl ?_
  go_wp2_with (at_builtin; refine wpList_append_sl _ rfl _ _ 42 rfl w1.heap.size 126 _ 2 16 Tryz.underlying42 infoBr rfl (by omega) _ 0 _ rfl HOB.out _ nb cb (ecells eB m.br) rfl (HBR.out _ (HB1.out.trans (HN.out.mono HB1.out.size))).2 (ecells_ones eB_one m.br) (by omega) (by omega) (by have := HN.out.size; omega) ?_)
  intro v2 wb hown2 hgr2 hb2
  obtain ⟨aB, cB, rfl, _, _⟩ := owns_slice hown2
  replace HOG := Lib.hid (owns_typed HOG.out (own_otherT HOB.out hgr2 (by decide)))
  replace HN := Lib.hid (HN.out.trans hb2)
  have HOB := Lib.hid hown2
  clear hown2 hgr2 hb2
  go_wp2_with fail
  refine tailL_mk (HN.out.mono hB12) ?_
  repeat (refine tree_head rfl ?_; (show wpQuiet _ _ _ _ (_ :: _) _; go_big_quiet_step (fail)); refine wpQuiet_nil ?_)
  refine tree_one rfl ?_
  go_wp2_with (at_builtin; refine wpList_append_sl _ rfl _ _ 43 rfl w1.heap.size 77 _ 4 32 Tryz.underlying43 infoGr rfl (by omega) _ 0 _ rfl HOG.out _ ng cg (ecells eG m.gs) rfl (HGR.out _ (HB1.out.trans (HN.out.mono HB1.out.size))).2 (ecells_ones eG_one m.gs) (by omega) (by omega) (by have := HN.out.size; omega) ?_)
  intro v3 wd hown2 hgr2 hb2
  obtain ⟨aG, cG, rfl, _, _⟩ := owns_slice hown2
  replace HOB := Lib.hid (owns_typed HOB.out (own_otherT HOG.out hgr2 (by decide)))
  replace HN := Lib.hid (HN.out.trans hb2)
  have HOG := Lib.hid hown2
  clear hown2 hgr2 hb2
  go_wp2_with fail
  refine tailL_mk (HN.out.mono hB12) ?_
  repeat (refine tree_head rfl ?_; (show wpQuiet _ _ _ _ (_ :: _) _; go_big_quiet_step (fail)); refine wpQuiet_nil ?_)
  refine tree_one rfl ?_
  have hzx := HN.out.size
  have kx := (HN.out.block (w.heap.size + 1) (by omega)).trans k2
  obtain ⟨c0, c1, c2, _⟩ := blkc3 kx
  have f0 := blk_fz kx 0
  have f1 := blk_fz kx 1
  have f2 := blk_fz kx 2
  have HKX := Lib.hid kx
  clear kx
  go_wp2_with fail
  refine tailL_mk (.setCell (.setCell (.setCell (HN.out.mono hB12) (by simp) _) (by simp) _) (by simp) _) ?_
  refine tree_done ?_
  go_wp2_with fail
  have kz := blk_set (blk_set (blk_set HKX.out 0 (.slice aB (0 + nb) cB)) 1 (.int .i64 m.st)) 2 (.slice aG (0 + ng) cG)
  have hbz := Below.setCell (Below.setCell (Below.setCell (HN.out.mono hB12) (p := ⟨w.heap.size + 1, 0, none⟩) (Nat.le_refl _) (.slice aB (0 + nb) cB)) (p := ⟨w.heap.size + 1, 1, none⟩) (Nat.le_refl _) (.int .i64 m.st)) (p := ⟨w.heap.size + 1, 2, none⟩) (Nat.le_refl _) (.slice aG (0 + ng) cG)
  have hoB := ownsRow_setCell_below (ownsRow_setCell_below (ownsRow_setCell_below HOB.out (a := ⟨w.heap.size + 1, 0, none⟩) hB13 (.slice aB (0 + nb) cB)) (a := ⟨w.heap.size + 1, 1, none⟩) hB13 (.int .i64 m.st)) (a := ⟨w.heap.size + 1, 2, none⟩) hB13 (.slice aG (0 + ng) cG)
  have hoG := ownsRow_setCell_below (ownsRow_setCell_below (ownsRow_setCell_below HOG.out (a := ⟨w.heap.size + 1, 0, none⟩) hB13 (.slice aB (0 + nb) cB)) (a := ⟨w.heap.size + 1, 1, none⟩) hB13 (.int .i64 m.st)) (a := ⟨w.heap.size + 1, 2, none⟩) hB13 (.slice aG (0 + ng) cG)
  simp only [Nat.zero_add, List.nil_append] at kz hbz hoB hoG
  generalize World.setCell (World.setCell (World.setCell _ _ _) _ _) _ _ = wz at *
  obtain ⟨r0, r1, r2, _⟩ := blkc3 kz
  refine bodyPost_ret (v := .agg #[.slice aB nb cB, .int .i64 m.st, .slice aG ng cG]) (by simp [results, Tryz.results15, go_sem, r0, r1, r2]) rfl ⟨aB, cB, aG, cG, rfl, HB1.out.trans (hbz.mono (by omega)), ER.of_owns HLB.out hoB, ER.of_owns HLG.out hoG⟩
end Go.Proofs.YtdjinmieogpgcaaGreat
