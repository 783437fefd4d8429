import Derived.RangeFuncNested
import Derived.RangeFuncBound
import Derived.RangeFuncCalls
import Derived.RangeFuncLeaves
import Derived.OwnWalkIn
import Derived.TacticsInMore
import Derived.Test.YtdjinmieogpgcaaGreatMTChk
/- A region that draws its order, by a schedule in which operations that only read and operations that come in their one order alternate. -/
namespace Go.Proofs.YtdjinmieogpgcaaGreat
open Go.RowKit
section
variable {P : Program} {ops : Array Oper} {md : Region.Mode} {S : World → Prop} {Q : Exit → Act → World → Prop}
def mixB (md : Region.Mode) (ops : Array Oper) : List (Bool × Nat) → Array Bool → Bool
 | [], listed => decide (Region.ready md ops listed = [])
 | (true, h) :: r, listed => (Region.ready md ops listed).contains h && Region.free md ops listed h && (match ops[h]? with | some o => plainOp o | none => false) && mixB md ops r (listed.setIfInBounds h true)
 | (false, t) :: r, listed => decide (Region.ready md ops listed = [t]) && mixB md ops r (listed.setIfInBounds t true)
def wpMix (P : Program) (ops : Array Oper) (S : World → Prop) (Q : Exit → Act → World → Prop) : List (Bool × Oper) → Act → World → Prop
 | [], a, w => Q .normal a w
 | (true, o) :: r, a, w => wpQuiet P ops S (fun a' => wpMix P ops S Q r a' w) [o] a
 | (false, o) :: r, a, w => wpList P ops (tailQ S Q (wpMix P ops S Q r)) [o] a w
def opsOf (ops : Array Oper) (l : List (Bool × Nat)) : List (Bool × Oper) := l.filterMap (fun x => (ops[x.2]?).map (fun o => (x.1, o)))
theorem mix_anyH (hsel : Region.noSelect ops = true) : ∀ (l : List (Bool × Nat)) (listed : Array Bool) (a : Act) (w : World), mixB md ops l listed = true → (∀ x ∈ l, x.2 < ops.size) → S w →
    wpMix P ops S Q (opsOf ops l) a w → wpAnyH P md ops (NoPanic Q) S l.length listed a w
 | [], listed, a, w, hB, _, _, h => by
  simp only [mixB, decide_eq_true_eq] at hB
  exact ⟨hB, h⟩
 | (true, x) :: r, listed, a, w, hB, hlt, hS, h => by
  simp only [mixB, Bool.and_eq_true] at hB
  have hx := hlt (true, x) (by simp)
  have ho : ops[x]? = some ops[x] := by simp [hx]
  rw [ho] at hB
  have h' : wpQuiet P ops S (fun a' => wpMix P ops S Q (opsOf ops r) a' w) [ops[x]] a := by
   have : opsOf ops ((true, x) :: r) = (true, ops[x]) :: opsOf ops r := by simp [opsOf, ho]
   rw [this] at h; exact h
  have hst : qOp P ops S x (wpQuiet P ops S (fun a' => wpMix P ops S Q (opsOf ops r) a' w) []) a := by unfold qOp; simp only [ho]; exact h'
  obtain ⟨v, hy, hK⟩ := yieldsIn_of_qOp ho hst
  exact wpAnyH_take ho hsel hB.1.1.2 hB.1.1.1 (fun _ _ _ h => h.elim) (yieldsIf_of_in hB.1.2 hy) hS (mix_anyH hsel r _ _ w hB.2 (fun y hy => hlt y (by simp [hy])) hS hK)
 | (false, t) :: r, listed, a, w, hB, hlt, hS, h => by
  simp only [mixB, Bool.and_eq_true, decide_eq_true_eq] at hB
  have ht := hlt (false, t) (by simp)
  have ho : ops[t]? = some ops[t] := by simp [ht]
  have h' : wpList P ops (tailQ S Q (wpMix P ops S Q (opsOf ops r))) [ops[t]] a w := by
   have : opsOf ops ((false, t) :: r) = (false, ops[t]) :: opsOf ops r := by simp [opsOf, ho]
   rw [this] at h; exact h
  refine wpAnyH_all hB.1 (by simp) (fun i hi => ?_)
  have hit : i = t := by simpa using hi
  subst hit
  refine wpOp_mono (fun a' w' hh => ⟨hh.1, ?_⟩) (wpOp_of_tail ho h')
  exact mix_anyH hsel r _ a' w' hB.2 (fun x hx => hlt x (by simp [hx])) hh.1 hh.2
def mixOk (ops : Array Oper) (l : List (Bool × Nat)) : Bool :=
 Region.noSelect ops && decide (l.length = ops.size) && l.all (fun x => decide (x.2 < ops.size)) && mixB .any ops l (Array.replicate ops.size false)
theorem wp_region_mix {id : Nat} {a : Act} {w : World} {l : List Oper} (sc : List (Bool × Nat)) (S : World → Prop) (hm : P.follows .mixedOrders = true) (hB : mixOk l.toArray sc = true) (hS : S w.drew)
    (h : wpMix P l.toArray S Q (opsOf l.toArray sc) a w.drew) : (Code.region id l.toArray true).wp P Q a w := by
 simp only [mixOk, Bool.and_eq_true, decide_eq_true_eq, List.all_eq_true] at hB
 obtain ⟨⟨⟨h1, h2⟩, h3⟩, h5⟩ := hB
 refine wp_region_noPanic (wp_region_held (S := S) hm ?_)
 rw [← h2] at h5 ⊢
 exact mix_anyH h1 sc _ a _ h5 (fun x hx => h3 x hx) hS h
end
section
variable {P : Program} {B : Nat}
theorem wp_region_laterM {id : Nat} {Q : Exit → Act → World → Prop} {a : Act} {w : World} {l : List Oper} (sc : List (Bool × Nat)) (hm : P.follows .mixedOrders = true) (hB : mixOk l.toArray sc = true)
    (h : wpMix P l.toArray (fun w' => ∃ u : LaterB B w, w' = u.world) Q (opsOf l.toArray sc) a w.drew) : (Code.region id l.toArray true).wp P Q a w :=
 wp_region_mix sc _ hm hB ⟨⟨_, (Below.refl B w).drew⟩, rfl⟩ h
theorem mix_head {ops : Array Oper} {S : World → Prop} {Q : Exit → Act → World → Prop} {o : Oper} {r : List (Bool × Oper)} {a : Act} {w : World} (h : wpQuiet P ops S (fun a' => wpMix P ops S Q r a' w) [o] a) : wpMix P ops S Q ((true, o) :: r) a w := h
theorem mix_tail {ops : Array Oper} {S : World → Prop} {Q : Exit → Act → World → Prop} {o : Oper} {r : List (Bool × Oper)} {a : Act} {w : World} (h : wpList P ops (tailQ S Q (wpMix P ops S Q r)) [o] a w) : wpMix P ops S Q ((false, o) :: r) a w := h
theorem mix_nil {ops : Array Oper} {S : World → Prop} {Q : Exit → Act → World → Prop} {a : Act} {w : World} (h : Q .normal a w) : wpMix P ops S Q [] a w := h
end
end Go.Proofs.YtdjinmieogpgcaaGreat
/- A region that draws its order, by a schedule whose class of worlds becomes smaller behind a forced operation: what a call has handed out may then be read first. -/
namespace Go.Proofs.YtdjinmieogpgcaaGreat
open Go.RowKit
section
variable {P : Program} {ops : Array Oper} {md : Region.Mode} {Q : Exit → Act → World → Prop}
theorem anyH_mono {S S' : World → Prop} (hs : ∀ w, S' w → S w) : ∀ (fuel : Nat) (listed : Array Bool) (a : Act) (w : World), wpAnyH P md ops Q S' fuel listed a w → wpAnyH P md ops Q S fuel listed a w
 | 0, _, _, _, h => h
 | fuel + 1, listed, a, w, h => by
  refine ⟨h.1, fun i hi => wpOp_mono (fun a' w' hh => ⟨hs _ hh.1, anyH_mono hs fuel _ a' w' hh.2⟩) (h.2 i hi)⟩
def wpMixC (P : Program) (ops : Array Oper) (Q : Exit → Act → World → Prop) : List (Bool × Oper) → (World → Prop) → Act → World → Prop
 | [], _, a, w => Q .normal a w
 | (true, o) :: r, S, a, w => wpQuiet P ops S (fun a' => wpMixC P ops Q r S a' w) [o] a
 | (false, o) :: r, S, a, w => wpList P ops (tailQ S Q (fun a' w' => ∃ S' : World → Prop, (∀ x, S' x → S x) ∧ S' w' ∧ wpMixC P ops Q r S' a' w')) [o] a w
theorem mixC_anyH (hsel : Region.noSelect ops = true) : ∀ (l : List (Bool × Nat)) (S : World → Prop) (listed : Array Bool) (a : Act) (w : World), mixB md ops l listed = true → (∀ x ∈ l, x.2 < ops.size) → S w →
    wpMixC P ops Q (opsOf ops l) S a w → wpAnyH P md ops (NoPanic Q) S l.length listed a w
 | [], S, listed, a, w, hB, _, _, h => by
  simp only [mixB, decide_eq_true_eq] at hB
  exact ⟨hB, h⟩
 | (true, x) :: r, S, listed, a, w, hB, hlt, hS, h => by
  simp only [mixB, Bool.and_eq_true] at hB
  have hx := hlt (true, x) (by simp)
  have ho : ops[x]? = some ops[x] := by simp [hx]
  rw [ho] at hB
  have h' : wpQuiet P ops S (fun a' => wpMixC P ops Q (opsOf ops r) S a' w) [ops[x]] a := by
   have : opsOf ops ((true, x) :: r) = (true, ops[x]) :: opsOf ops r := by simp [opsOf, ho]
   rw [this] at h; exact h
  have hst : qOp P ops S x (wpQuiet P ops S (fun a' => wpMixC P ops Q (opsOf ops r) S a' w) []) a := by unfold qOp; simp only [ho]; exact h'
  obtain ⟨v, hy, hK⟩ := yieldsIn_of_qOp ho hst
  exact wpAnyH_take ho hsel hB.1.1.2 hB.1.1.1 (fun _ _ _ h => h.elim) (yieldsIf_of_in hB.1.2 hy) hS (mixC_anyH hsel r S _ _ w hB.2 (fun y hy => hlt y (by simp [hy])) hS hK)
 | (false, t) :: r, S, listed, a, w, hB, hlt, hS, h => by
  simp only [mixB, Bool.and_eq_true, decide_eq_true_eq] at hB
  have ht := hlt (false, t) (by simp)
  have ho : ops[t]? = some ops[t] := by simp [ht]
  have h' : wpList P ops (tailQ S Q (fun a' w' => ∃ S' : World → Prop, (∀ x, S' x → S x) ∧ S' w' ∧ wpMixC P ops Q (opsOf ops r) S' a' w')) [ops[t]] a w := by
   have : opsOf ops ((false, t) :: r) = (false, ops[t]) :: opsOf ops r := by simp [opsOf, ho]
   rw [this] at h; exact h
  refine wpAnyH_all hB.1 (by simp) (fun i hi => ?_)
  have hit : i = t := by simpa using hi
  subst hit
  refine wpOp_mono (fun a' w' hh => ⟨hh.1, ?_⟩) (wpOp_of_tail ho h')
  obtain ⟨S', h1, h2, h3⟩ := hh.2
  exact anyH_mono h1 _ _ _ _ (mixC_anyH hsel r S' _ a' w' hB.2 (fun x hx => hlt x (by simp [hx])) h2 h3)
theorem wp_region_laterC {B b0 : Nat} {id : Nat} {a : Act} {w : World} {l : List Oper} (sc : List (Bool × Nat)) (hm : P.follows .mixedOrders = true) (hB : mixOk l.toArray sc = true)
    (h : wpMixC P l.toArray Q (opsOf l.toArray sc) (fun w' => ∃ u : LaterX B b0 w, w' = u.world) a w.drew) : (Code.region id l.toArray true).wp P Q a w := by
 simp only [mixOk, Bool.and_eq_true, decide_eq_true_eq, List.all_eq_true] at hB
 obtain ⟨⟨⟨h1, h2⟩, h3⟩, h5⟩ := hB
 refine wp_region_noPanic (wp_region_held (S := fun w' => ∃ u : LaterX B b0 w, w' = u.world) hm ?_)
 rw [← h2] at h5 ⊢
 exact mixC_anyH h1 sc _ _ a _ h5 (fun x hx => h3 x hx) ⟨⟨_, SameX.drew (fun _ _ _ _ => rfl)⟩, rfl⟩ h
theorem mixc_head {S : World → Prop} {o : Oper} {r : List (Bool × Oper)} {a : Act} {w : World} (h : wpQuiet P ops S (fun a' => wpMixC P ops Q r S a' w) [o] a) : wpMixC P ops Q ((true, o) :: r) S a w := h
theorem mixc_tail {S : World → Prop} {o : Oper} {r : List (Bool × Oper)} {a : Act} {w : World} (h : wpList P ops (tailQ S Q (fun a' w' => ∃ S' : World → Prop, (∀ x, S' x → S x) ∧ S' w' ∧ wpMixC P ops Q r S' a' w')) [o] a w) : wpMixC P ops Q ((false, o) :: r) S a w := h
theorem mixc_nil {S : World → Prop} {a : Act} {w : World} (h : Q .normal a w) : wpMixC P ops Q [] S a w := h
theorem tailC_stay {B b0 : Nat} {r : List (Bool × Oper)} {a : Act} {w w' : World} (hs : SameX B b0 w w') (hk : wpMixC P ops Q r (fun x => ∃ u : LaterX B b0 w, x = u.world) a w') :
    tailQ (fun x => ∃ u : LaterX B b0 w, x = u.world) Q (fun a' w' => ∃ S' : World → Prop, (∀ x, S' x → (∃ u : LaterX B b0 w, x = u.world)) ∧ S' w' ∧ wpMixC P ops Q r S' a' w') .normal a w' :=
 ⟨⟨⟨w', hs⟩, rfl⟩, _, fun _ h => h, ⟨⟨w', hs⟩, rfl⟩, hk⟩
end
end Go.Proofs.YtdjinmieogpgcaaGreat
/- Machines and limits that are checked: openMachine, open. -/
namespace Go.Proofs.YtdjinmieogpgcaaGreat
open Go.RowKit
set_option linter.unusedVariables false
set_option linter.unusedSimpArgs false
set_option maxHeartbeats 1000000 in
set_option maxRecDepth 100000 in
theorem openMachine_any (m : Mac) (ab ag : Option Addr) (nb cb ng cg : Nat) (w : World) (hb : BrR w ab nb m.br) (hg : GrR w ag ng m.gs) :
    Calls Tryz.prog 75 #[.agg #[.slice ab nb cb, .int .i64 m.st, .slice ag ng cg]] w fun e' w' => e' = .returned (.tuple #[.agg #[.slice ab nb cb, .int .i64 m.st, .slice ag ng cg], .int .i64 (macE m).2]) ∧ Below w.heap.size w w' := by
 have HC := Lib.hid (fun (W : World) (hbw : Below w.heap.size w W) => checkMachine_any m ab ag nb cb ng cg W (hb.below hbw) (hg.below hbw))
 obtain ⟨st, hst⟩ : ∃ s, s = m.st := ⟨_, rfl⟩
 rw [← hst] at HC ⊢
 generalize macE m = E at *
 obtain ⟨k, e⟩ := E
 simp only at HC ⊢
 clear hb hg hst
 go_enter Tryz.func75, Tryz.ntmps75
 go_wp2_with fail
 refine (HC.out _ (by (first|exact bwg|go_size))).mono ?_
 rintro e5 w5 ⟨rfl, hb5⟩
 have hz5 := hb5.size
 simp only [World.size_alloc] at hz5
 have q0 : w5.cell? ⟨w.heap.size, 0, none⟩ = some (.slice ab nb cb) := bwc hb5; have q1 : w5.cell? ⟨w.heap.size, 1, none⟩ = some (.int .i64 st) := bwc hb5; have q2 : w5.cell? ⟨w.heap.size, 2, none⟩ = some (.slice ag ng cg) := bwc hb5; have r0 : w5.cell? ⟨w.heap.size + 1, 0, none⟩ = some (.slice none 0 0) := bwc hb5; have r1 : w5.cell? ⟨w.heap.size + 1, 1, none⟩ = some (.int .i64 0) := bwc hb5; have r2 : w5.cell? ⟨w.heap.size + 1, 2, none⟩ = some (.slice none 0 0) := bwc hb5; have f0 : w5.frozen? ⟨w.heap.size + 1, 0, none⟩ = false := bwf hb5; have f1 : w5.frozen? ⟨w.heap.size + 1, 1, none⟩ = false := bwf hb5; have f2 : w5.frozen? ⟨w.heap.size + 1, 2, none⟩ = false := bwf hb5; have l0 : w.heap.size < w5.heap.size := by { omega }; have l1 : w.heap.size + 1 < w5.heap.size := by { omega }
 have HB5 := Lib.hid (show Below w.heap.size w w5 by (first|exact bwg|go_size))
 clear hb5 hz5
 go_wp2
 generalize hW : World.setCell (World.setCell (World.setCell _ _ _) _ _) _ _ = wz
 have s0 : wz.cell? ⟨w.heap.size + 1, 0, none⟩ = some (.slice ab nb cb) := by { rw [← hW]; clear hW; go_simp }
 have s1 : wz.cell? ⟨w.heap.size + 1, 1, none⟩ = some (.int .i64 st) := by { rw [← hW]; clear hW; go_simp }
 have s2 : wz.cell? ⟨w.heap.size + 1, 2, none⟩ = some (.slice ag ng cg) := by { rw [← hW]; clear hW; go_simp }
 refine bodyPost_ret (v := .tuple #[.agg #[.slice ab nb cb, .int .i64 st, .slice ag ng cg], .int .i64 e]) (by simp [results, Tryz.results75, go_sem, s0, s1, s2]) rfl ⟨rfl, ?_⟩
 rw [← hW]
 have := HB5.out
 (first|exact bwg|go_size)
set_option maxHeartbeats 1000000 in
set_option maxRecDepth 100000 in
theorem open_any (m : Mac) (l : Lim) (ab ag : Option Addr) (nb cb ng cg : Nat) (w : World) (hb : BrR w ab nb m.br) (hg : GrR w ag ng m.gs) :
    Calls Tryz.prog 48 #[.agg #[.slice ab nb cb, .int .i64 m.st, .slice ag ng cg], .agg #[.int .i64 l.volt, .int .i64 l.lo, .int .i64 l.hi, .int .i64 l.circ, .int .i64 l.brk, .int .i64 l.ret]] w
     fun e' w' => e' = .returned (.tuple #[.agg #[.slice ab nb cb, .int .i64 m.st, .slice ag ng cg, .int .i64 l.volt, .int .i64 l.lo, .int .i64 l.hi, .int .i64 l.circ, .int .i64 l.brk, .int .i64 l.ret], .int .i64 (firstErr [(macE m).2, limE l])]) ∧ Below w.heap.size w w' := by
 have HC := Lib.hid (fun (W : World) (hbw : Below w.heap.size w W) => openMachine_any m ab ag nb cb ng cg W (hb.below hbw) (hg.below hbw))
 have HL := Lib.hid (fun (W : World) => checkLimits_any l W)
 obtain ⟨st, hst⟩ : ∃ s, s = m.st := ⟨_, rfl⟩
 rw [← hst] at HC ⊢
 generalize (macE m).2 = E1 at *
 generalize limE l = E2 at *
 obtain ⟨vo, lo, hi, ci, br, re⟩ := l
 simp only at HL ⊢
 clear hb hg hst
 obtain ⟨V, hV⟩ : ∃ V, V = firstErr [E1, E2] := ⟨_, rfl⟩
 have HV := Lib.hid hV
 rw [← hV]
 clear hV
 go_enter Tryz.func48, Tryz.ntmps48
 go_wp2_with fail
 refine (HC.out _ (by (first|exact bwg|go_size))).mono ?_
 rintro e5 w5 ⟨rfl, hb5⟩
 have hz5 := hb5.size
 simp only [World.size_alloc] at hz5
 have q0 : w5.cell? ⟨w.heap.size + 1, 0, none⟩ = some (.int .i64 vo) := bwc hb5; have q1 : w5.cell? ⟨w.heap.size + 1, 1, none⟩ = some (.int .i64 lo) := bwc hb5; have q2 : w5.cell? ⟨w.heap.size + 1, 2, none⟩ = some (.int .i64 hi) := bwc hb5; have q3 : w5.cell? ⟨w.heap.size + 1, 3, none⟩ = some (.int .i64 ci) := bwc hb5; have q4 : w5.cell? ⟨w.heap.size + 1, 4, none⟩ = some (.int .i64 br) := bwc hb5; have q5 : w5.cell? ⟨w.heap.size + 1, 5, none⟩ = some (.int .i64 re) := bwc hb5; have l1 : w.heap.size + 1 < w5.heap.size := by { omega }
 have k4 : w5.heap[w.heap.size + 1 + 1]? = some (.cells #[.slice none 0 0, .int .i64 0, .slice none 0 0, .int .i64 0, .int .i64 0, .int .i64 0, .int .i64 0, .int .i64 0, .int .i64 0] 100) := by
  rw [hb5.block _ (by simp)]
  have := heap_alloc_new ((w.alloc (Obj.cells #[.slice ab nb cb, .int .i64 st, .slice ag ng cg] 45)).alloc (Obj.cells #[.int .i64 vo, .int .i64 lo, .int .i64 hi, .int .i64 ci, .int .i64 br, .int .i64 re] 47)) (Obj.cells #[.slice none 0 0, .int .i64 0, .slice none 0 0, .int .i64 0, .int .i64 0, .int .i64 0, .int .i64 0, .int .i64 0, .int .i64 0] 100)
  simpa using this
 have HB5 := Lib.hid (show Below w.heap.size w w5 by (first|exact bwg|go_size))
 obtain ⟨w6, hW⟩ : ∃ w6, w6 = w5.alloc (Obj.cells #[.slice ab nb cb, .int .i64 st, .slice ag ng cg] 98) := ⟨_, rfl⟩
 have hb6 : Below w5.heap.size w5 w6 := by rw [hW]; (first|exact bwg|go_size)
 have k6 : w6.heap[w5.heap.size]? = some (.cells #[.slice ab nb cb, .int .i64 st, .slice ag ng cg] 98) := by rw [hW]; exact heap_alloc_new _ _
 clear hb5
 go_wp2_with fail
 rw [← hW]
 obtain ⟨X6, hX6⟩ : ∃ X, X = w5.heap.size := ⟨_, rfl⟩
 rw [← hX6] at k6 ⊢
 obtain ⟨X4, hX4⟩ : ∃ X, X = w.heap.size + 1 + 1 := ⟨_, rfl⟩
 rw [← hX4] at k4 ⊢
 have hne : X4 < X6 := by rw [hX6]; exact blk_lt k4
 have hlow : w.heap.size + 1 < X4 := by omega
 have k4 := blk_below k4 hb6
 have HB6 := bwt HB5 hb6
 have u0 : w6.cell? ⟨w.heap.size + 1, 0, none⟩ = some (.int .i64 vo) := bwc hb6; have u1 : w6.cell? ⟨w.heap.size + 1, 1, none⟩ = some (.int .i64 lo) := bwc hb6; have u2 : w6.cell? ⟨w.heap.size + 1, 2, none⟩ = some (.int .i64 hi) := bwc hb6; have u3 : w6.cell? ⟨w.heap.size + 1, 3, none⟩ = some (.int .i64 ci) := bwc hb6; have u4 : w6.cell? ⟨w.heap.size + 1, 4, none⟩ = some (.int .i64 br) := bwc hb6; have u5 : w6.cell? ⟨w.heap.size + 1, 5, none⟩ = some (.int .i64 re) := bwc hb6
 obtain ⟨p0, p1, p2, l6⟩ := blkc3 k6
 have l4 := blk_lt k4
 have ok6 : OkB X6 w6.heap.size X4 := ⟨l6, by omega⟩
 have okL : OkB (w.heap.size + 1) w6.heap.size X4 := ⟨by omega, by omega⟩
 have HK4 := Lib.hid k4
 have hX4w : w.heap.size ≤ X4 := by omega
 clear hW hX6 hX4 k6 k4 hb6 q0 q1 q2 q3 q4 q5 HB5 l1 hz5
 refine wp_region_laterC (B := w6.heap.size) (b0 :=  X4) [(true, 0), (true, 1), (true, 2), (true, 3), (true, 4), (false, 5), (false, 6), (false, 7), (false, 8), (true, 9)] (by kernel_rfl) (by kernel_rfl) ?_; simp only [opsOf, List.filterMap_cons, List.filterMap_nil, List.getElem?_toArray, List.getElem?_cons_zero, List.getElem?_cons_succ, Option.map_some]
 repeat (refine mixc_head ?_; (show wpQuiet _ _ _ _ (_ :: _) _; go_big_quiet_step (fail)); refine wpQuiet_nil ?_)
 refine mixc_tail ?_; go_wp2_with fail
 refine (HL.out _).mono ?_
 rintro e7 w7 ⟨rfl, hb7⟩
 have HX := Lib.hid ((show Below w6.heap.size w6 w6.drew by (first|exact bwg|go_size)).trans hb7)
 clear hb7
 go_wp2_with fail
 refine tailC_stay (SameX.of_below HX.out) ?_
 refine mixc_tail ?_; go_wp2_with fail
 have hb8 : Below w7.heap.size w7 (w7.alloc (Obj.cells #[.int .i64 E1, .int .i64 E2] 31)) := by (first|exact bwg|go_size)
 have HX8 := bwt HX hb8
 refine tailC_stay (SameX.of_below HX8.out) ?_
 refine mixc_tail ?_; go_wp2_with fail
 refine (t_first2 _ _ _ _ _ _ (by rfl) (by simp)).mono ?_
 rintro e8 w8 ⟨rfl, hw8⟩
 rw [hw8] at HX8
 clear hw8 hb8
 have kx := (HX8.out.block X4 l4).trans HK4.out
 obtain ⟨c0, c1, c2, c3, c4, c5, c6, c7, c8, _⟩ := blkc9 kx
 have d0 := blk_fz kx 0
 have d1 := blk_fz kx 1
 have d2 := blk_fz kx 2
 have d3 := blk_fz kx 3
 have d4 := blk_fz kx 4
 have d5 := blk_fz kx 5
 have d6 := blk_fz kx 6
 have d7 := blk_fz kx 7
 have d8 := blk_fz kx 8
 have lx := blk_lt kx
 have HKX := Lib.hid kx
 clear kx
 go_wp2_with fail
 refine tailC_stay (SameX.of_below HX8.out) ?_
 refine mixc_tail ?_; go_wp2_with fail
 have y0 : SameX w6.heap.size X4 w6 w8 := SameX.of_below HX8.out
 have y1 := SameX.set (o := 0) y0 (.slice ab nb cb)
 have y2 := SameX.set (o := 1) y1 (.int .i64 st)
 have y3 := SameX.set (o := 2) y2 (.slice ag ng cg)
 have y4 := SameX.set (o := 3) y3 (.int .i64 vo)
 have y5 := SameX.set (o := 4) y4 (.int .i64 lo)
 have y6 := SameX.set (o := 5) y5 (.int .i64 hi)
 have y7 := SameX.set (o := 6) y6 (.int .i64 ci)
 have y8 := SameX.set (o := 7) y7 (.int .i64 br)
 have y9 := SameX.set (o := 8) y8 (.int .i64 re)
 have HY := Lib.hid y9
 clear y0 y1 y2 y3 y4 y5 y6 y7 y8 y9
 refine tailC_stay HY.out ?_
 repeat (refine mixc_head ?_; (show wpQuiet _ _ _ _ (_ :: _) _; go_big_quiet_step (fail)); refine wpQuiet_nil ?_)
 refine mixc_nil ?_
 go_wp2_with fail
 have z0 := HKX.out
 obtain ⟨wz0, hz0⟩ : ∃ W, W = w8.setCell ⟨X4, 0, none⟩ (.slice ab nb cb) := ⟨_, rfl⟩
 have z1 : wz0.heap[X4]? = some (.cells #[.slice ab nb cb, .int .i64 0, .slice none 0 0, .int .i64 0, .int .i64 0, .int .i64 0, .int .i64 0, .int .i64 0, .int .i64 0] 100) := by rw [hz0]; exact blk_set z0 0 (.slice ab nb cb)
 have e1 : Below w.heap.size w wz0 := by rw [hz0]; exact Below.setCell (HB6.out.trans (HX8.out.mono HB6.out.size)) hX4w _
 obtain ⟨wz1, hz1⟩ : ∃ W, W = wz0.setCell ⟨X4, 1, none⟩ (.int .i64 st) := ⟨_, rfl⟩
 have z2 : wz1.heap[X4]? = some (.cells #[.slice ab nb cb, .int .i64 st, .slice none 0 0, .int .i64 0, .int .i64 0, .int .i64 0, .int .i64 0, .int .i64 0, .int .i64 0] 100) := by rw [hz1]; exact blk_set z1 1 (.int .i64 st)
 have e2 : Below w.heap.size w wz1 := by rw [hz1]; exact Below.setCell e1 hX4w _
 obtain ⟨wz2, hz2⟩ : ∃ W, W = wz1.setCell ⟨X4, 2, none⟩ (.slice ag ng cg) := ⟨_, rfl⟩
 have z3 : wz2.heap[X4]? = some (.cells #[.slice ab nb cb, .int .i64 st, .slice ag ng cg, .int .i64 0, .int .i64 0, .int .i64 0, .int .i64 0, .int .i64 0, .int .i64 0] 100) := by rw [hz2]; exact blk_set z2 2 (.slice ag ng cg)
 have e3 : Below w.heap.size w wz2 := by rw [hz2]; exact Below.setCell e2 hX4w _
 obtain ⟨wz3, hz3⟩ : ∃ W, W = wz2.setCell ⟨X4, 3, none⟩ (.int .i64 vo) := ⟨_, rfl⟩
 have z4 : wz3.heap[X4]? = some (.cells #[.slice ab nb cb, .int .i64 st, .slice ag ng cg, .int .i64 vo, .int .i64 0, .int .i64 0, .int .i64 0, .int .i64 0, .int .i64 0] 100) := by rw [hz3]; exact blk_set z3 3 (.int .i64 vo)
 have e4 : Below w.heap.size w wz3 := by rw [hz3]; exact Below.setCell e3 hX4w _
 obtain ⟨wz4, hz4⟩ : ∃ W, W = wz3.setCell ⟨X4, 4, none⟩ (.int .i64 lo) := ⟨_, rfl⟩
 have z5 : wz4.heap[X4]? = some (.cells #[.slice ab nb cb, .int .i64 st, .slice ag ng cg, .int .i64 vo, .int .i64 lo, .int .i64 0, .int .i64 0, .int .i64 0, .int .i64 0] 100) := by rw [hz4]; exact blk_set z4 4 (.int .i64 lo)
 have e5 : Below w.heap.size w wz4 := by rw [hz4]; exact Below.setCell e4 hX4w _
 obtain ⟨wz5, hz5⟩ : ∃ W, W = wz4.setCell ⟨X4, 5, none⟩ (.int .i64 hi) := ⟨_, rfl⟩
 have z6 : wz5.heap[X4]? = some (.cells #[.slice ab nb cb, .int .i64 st, .slice ag ng cg, .int .i64 vo, .int .i64 lo, .int .i64 hi, .int .i64 0, .int .i64 0, .int .i64 0] 100) := by rw [hz5]; exact blk_set z5 5 (.int .i64 hi)
 have e6 : Below w.heap.size w wz5 := by rw [hz5]; exact Below.setCell e5 hX4w _
 obtain ⟨wz6, hz6⟩ : ∃ W, W = wz5.setCell ⟨X4, 6, none⟩ (.int .i64 ci) := ⟨_, rfl⟩
 have z7 : wz6.heap[X4]? = some (.cells #[.slice ab nb cb, .int .i64 st, .slice ag ng cg, .int .i64 vo, .int .i64 lo, .int .i64 hi, .int .i64 ci, .int .i64 0, .int .i64 0] 100) := by rw [hz6]; exact blk_set z6 6 (.int .i64 ci)
 have e7 : Below w.heap.size w wz6 := by rw [hz6]; exact Below.setCell e6 hX4w _
 obtain ⟨wz7, hz7⟩ : ∃ W, W = wz6.setCell ⟨X4, 7, none⟩ (.int .i64 br) := ⟨_, rfl⟩
 have z8 : wz7.heap[X4]? = some (.cells #[.slice ab nb cb, .int .i64 st, .slice ag ng cg, .int .i64 vo, .int .i64 lo, .int .i64 hi, .int .i64 ci, .int .i64 br, .int .i64 0] 100) := by rw [hz7]; exact blk_set z7 7 (.int .i64 br)
 have e8 : Below w.heap.size w wz7 := by rw [hz7]; exact Below.setCell e7 hX4w _
 obtain ⟨wz8, hz8⟩ : ∃ W, W = wz7.setCell ⟨X4, 8, none⟩ (.int .i64 re) := ⟨_, rfl⟩
 have z9 : wz8.heap[X4]? = some (.cells #[.slice ab nb cb, .int .i64 st, .slice ag ng cg, .int .i64 vo, .int .i64 lo, .int .i64 hi, .int .i64 ci, .int .i64 br, .int .i64 re] 100) := by rw [hz8]; exact blk_set z8 8 (.int .i64 re)
 have e9 : Below w.heap.size w wz8 := by rw [hz8]; exact Below.setCell e8 hX4w _
 rw [← hz0, ← hz1, ← hz2, ← hz3, ← hz4, ← hz5, ← hz6, ← hz7, ← hz8]
 have kz := z9
 clear z0 z1 z2 z3 z4 z5 z6 z7 z8 z9
 obtain ⟨s0, s1, s2, s3, s4, s5, s6, s7, s8, _⟩ := blkc9 kz
 refine bodyPost_ret (v := .tuple #[.agg #[.slice ab nb cb, .int .i64 st, .slice ag ng cg, .int .i64 vo, .int .i64 lo, .int .i64 hi, .int .i64 ci, .int .i64 br, .int .i64 re], .int .i64 V]) (by simp [results, Tryz.results48, go_sem, s0, s1, s2, s3, s4, s5, s6, s7, s8, HV.out]) rfl ⟨rfl, e9⟩
/- mayChange: a guard permits that a contact changes. -/
theorem not_bits : ∀ a < 64, ∀ s < 64, (bits .andNot .i64 ((a : Nat) : Int) ((s : Nat) : Int) == 0) = decide (a &&& s = a) := by decide +kernel
theorem and_bits : ∀ a < 64, ∀ s < 64, (bits .and .i64 ((a : Nat) : Int) ((s : Nat) : Int) == 0) = decide (a &&& s = 0) := by decide +kernel
set_option maxHeartbeats 1000000 in
set_option maxRecDepth 100000 in
theorem may1_any (g : Grd) (s i BC BS : Nat) (w : World) (hs : s < 64) (hi : i < 8) (hg1 : 0 ≤ g.ci ∧ g.ci < 64) (hg2 : 0 ≤ g.op ∧ g.op < 64) (h1 : BC < w.heap.size) (h2 : BS < w.heap.size)
    (hc1 : w.cell? ⟨BC, 0, none⟩ = some (.int .i64 (i : Int))) (hc2 : w.cell? ⟨BS, 0, none⟩ = some (.int .i64 (s : Int))) :
    Calls Tryz.prog 126 #[.agg #[.int .i64 g.c, .bool g.cl, .int .i64 g.ci, .int .i64 g.op], .pointer (some ⟨BC, 0, none⟩), .pointer (some ⟨BS, 0, none⟩)] w fun e' w' => e' = .returned (.bool (grdB s i g)) ∧ Below w.heap.size w w' := by
 obtain ⟨gc, gl, gi, go⟩ := g
 simp only at hg1 hg2 ⊢
 obtain ⟨a, rfl⟩ : ∃ a : Nat, gi = a := ⟨gi.toNat, by omega⟩
 obtain ⟨b, rfl⟩ : ∃ b : Nat, go = b := ⟨go.toNat, by omega⟩
 have e1 := not_bits a (by omega) s hs
 have e2 := and_bits b (by omega) s hs
 have HH := Lib.hid (fun w' => has_any s i w' hs hi)
 obtain ⟨V, hV⟩ : ∃ V, V = grdB s i ⟨gc, gl, a, b⟩ := ⟨_, rfl⟩
 have hV2 : V = (((gc == (i : Int)) && (!(gl == s.testBit i))) && (bits .andNot .i64 ((a : Nat) : Int) ((s : Nat) : Int) == 0) && (bits .and .i64 ((b : Nat) : Int) ((s : Nat) : Int) == 0)) := by
  rw [hV, e1, e2]
  unfold grdB
  simp only [Int.toNat_natCast]
  congr 2
  congr 1
  rw [Bool.eq_iff_iff]; simp
 rw [← hV]
 clear hV e1 e2
 generalize s.testBit i = tb at *
 obtain ⟨x1, hx1⟩ : ∃ x, x = (gc == (i : Int)) := ⟨_, rfl⟩
 obtain ⟨x2, hx2⟩ : ∃ x, x = (gl == tb) := ⟨_, rfl⟩
 obtain ⟨x3, hx3⟩ : ∃ x, x = (bits .andNot .i64 ((a : Nat) : Int) ((s : Nat) : Int) == 0) := ⟨_, rfl⟩
 obtain ⟨x4, hx4⟩ : ∃ x, x = (bits .and .i64 ((b : Nat) : Int) ((s : Nat) : Int) == 0) := ⟨_, rfl⟩
 rw [← hx1, ← hx2, ← hx3, ← hx4] at hV2
 have HV := Lib.hid hV2
 have f1 := hx1.symm
 have f2 := hx2.symm
 have f3 := hx3.symm
 have f4 := hx4.symm
 clear hV2 hx1 hx2 hx3 hx4
 cases x1
 ·go_enter Tryz.func126, Tryz.ntmps126
  go_wp2_with fail
  refine later_all (by kernel_rfl) (by kernel_rfl) ?_; repeat go_big_quiet_step(with_reducible exact calls_later_same (HH.out _))
  refine wpQuiet_nil ?_; intro w5 hb5
  have HB5 := Lib.hid (show Below w.heap.size w w5 by (first|exact bwg|go_size))
  clear hb5
  go_wp2
  go_ret
  exact ⟨ret_bool (by rw [HV.out]; first | rfl | simp), HB5.out⟩
 ·cases x2
  ·cases x3
   ·go_enter Tryz.func126, Tryz.ntmps126
    go_wp2_with fail
    refine later_all (by kernel_rfl) (by kernel_rfl) ?_; repeat go_big_quiet_step(with_reducible exact calls_later_same (HH.out _))
    refine wpQuiet_nil ?_; intro w5 hb5
    have HB5 := Lib.hid (show Below w.heap.size w w5 by (first|exact bwg|go_size))
    clear hb5
    go_wp2
    go_ret
    exact ⟨ret_bool (by rw [HV.out]; first | rfl | simp), HB5.out⟩
   ·go_enter Tryz.func126, Tryz.ntmps126
    go_wp2_with fail
    refine later_all (by kernel_rfl) (by kernel_rfl) ?_; repeat go_big_quiet_step(with_reducible exact calls_later_same (HH.out _))
    refine wpQuiet_nil ?_; intro w5 hb5
    have HB5 := Lib.hid (show Below w.heap.size w w5 by (first|exact bwg|go_size))
    clear hb5
    go_wp2
    go_ret
    exact ⟨ret_bool (by rw [HV.out]; first | rfl | simp), HB5.out⟩
  ·go_enter Tryz.func126, Tryz.ntmps126
   go_wp2_with fail
   refine later_all (by kernel_rfl) (by kernel_rfl) ?_; repeat go_big_quiet_step(with_reducible exact calls_later_same (HH.out _))
   refine wpQuiet_nil ?_; intro w5 hb5
   have HB5 := Lib.hid (show Below w.heap.size w w5 by (first|exact bwg|go_size))
   clear hb5
   go_wp2
   go_ret
   exact ⟨ret_bool (by rw [HV.out]; first | rfl | simp), HB5.out⟩
theorem gAt_get {l : List Grd} {k : Nat} {g : Grd} (h : l[k]? = some g) : gAt l k = g := by unfold gAt; simp [List.getD, h]
set_option maxHeartbeats 1000000 in
set_option maxRecDepth 100000 in
theorem indexGrd_any (s ic BC BS : Nat) (l : List Grd) (a : Option Addr) (n c : Nat) (w : World) (hl : GrR w a n l) (hs : s < 64) (hi : ic < 8) (hx : ∀ g ∈ l, (0 ≤ g.ci ∧ g.ci < 64) ∧ 0 ≤ g.op ∧ g.op < 64) (h1 : BC < w.heap.size) (h2 : BS < w.heap.size)
    (hc1 : w.cell? ⟨BC, 0, none⟩ = some (.int .i64 (ic : Int))) (hc2 : w.cell? ⟨BS, 0, none⟩ = some (.int .i64 (s : Int))) :
    Calls Tryz.prog 150 #[.slice a n c, .func (.func 126) #[] #[.pointer (some ⟨BC, 0, none⟩), .pointer (some ⟨BS, 0, none⟩)]] w fun e' w' => e' = .returned (.int .i64 (idxFrom (grdB s ic) l 0)) ∧ Below w.heap.size w w' := by
 have HL := Lib.hid hl
 have HO := Lib.hid (fun (q : Grd) (hq : q ∈ l) (W : World) (hb : Below w.heap.size w W) => may1_any q s ic BC BS W hs hi (hx q hq).1 (hx q hq).2 (Nat.lt_of_lt_of_le h1 hb.size) (Nat.lt_of_lt_of_le h2 hb.size) (by rw [cellB hb _ _ h1]; exact hc1) (by rw [cellB hb _ _ h2]; exact hc2))
 have hn := hl.small
 clear hl hc1 hc2 hx h1 h2
 go_enter Tryz.func150, Tryz.ntmps150
 go_wp2
 go_loopw [8] (fun i wr => ∃ k : Nat, i = .int .i64 k ∧ k ≤ n ∧ Hid (idxFrom (grdB s ic) (l.drop k) k = idxFrom (grdB s ic) l 0) ∧ Hid (Below w.heap.size w wr)) (fun i _ => n - (intOf i).toNat)
 case atStart => exact ⟨0, rfl, Nat.zero_le _, rfl, Lib.hid (Below.refl _ _)⟩
 case round =>
  obtain ⟨k, rfl, hk, hF, hB'⟩ := hrel
  by_cases hlt : k < n
  ·obtain ⟨b, o, rfl, hb, hc⟩ := HL.out.addr (by omega)
   obtain ⟨g, hx⟩ := ER.get HL.out hlt
   obtain ⟨q0, q1, q2, q3⟩ := hc k hlt
   rw [gAt_get hx] at q0 q1 q2 q3
   rw [← cellB hB'.out _ _ hb] at q0 q1 q2 q3
   clear hc
   have hF' := hF.out
   rw [drop_cons' hx, idxFrom] at hF'
   have HF := Lib.hid hF'
   have HQ := Lib.hid (HO.out _ (List.mem_of_getElem? hx) wr hB'.out)
   clear hF' hF hx
   obtain ⟨gc, gl, gi, go⟩ := g
   have i0 : (0 : Int) ≤ (k : Int) := by omega
   have hz := hB'.out.size
   simp only at HQ HF q0 q1 q2 q3
   generalize grdB s ic ⟨gc, gl, gi, go⟩ = b1 at *
   go_wp2_with fail
   refine HQ.out.mono ?_
   rintro e w' ⟨rfl, hb'⟩
   have HB := Lib.hid (hB'.out.trans (hb'.mono hB'.out.size))
   clear hb' hB'
   cases b1
   ·rw [if_neg (by decide)] at HF
    go_wp2
    go_roundw
    case rel => exact ⟨k + 1, by go_num, by omega, HF, HB⟩
    case measure => simp [intOf]; omega
   ·rw [if_pos rfl] at HF
    go_wp2
    go_ret
    exact ⟨ret_int HF.out, HB.out⟩
  ·have HE := Lib.hid (show (-1 : Int) = idxFrom (grdB s ic) l 0 by
     rw [← hF.out, drop_end l k (by rw [HL.out.len]; omega)]; rfl)
   clear hF
   go_wp2
   go_ret
   exact ⟨ret_int HE.out, hB'.out⟩
theorem idx_any {α : Type} {p : α → Bool} : ∀ (l : List α) (k : Nat), decide (idxFrom p l k ≥ 0) = l.any p
 | [], k => by simp [idxFrom]
 | x :: r, k => by
  unfold idxFrom
  cases h : p x
  ·rw [if_neg (by decide), List.any_cons, h, idx_any r (k + 1)]; rfl
  ·rw [if_pos rfl, List.any_cons, h]; simp
theorem containsGrd_any (s i BC BS : Nat) (l : List Grd) (a : Option Addr) (n c : Nat) (w : World) (hl : GrR w a n l) (hs : s < 64) (hi : i < 8) (hx : ∀ g ∈ l, (0 ≤ g.ci ∧ g.ci < 64) ∧ 0 ≤ g.op ∧ g.op < 64) (h1 : BC < w.heap.size) (h2 : BS < w.heap.size)
    (hc1 : w.cell? ⟨BC, 0, none⟩ = some (.int .i64 (i : Int))) (hc2 : w.cell? ⟨BS, 0, none⟩ = some (.int .i64 (s : Int))) :
    Calls Tryz.prog 125 #[.slice a n c, .func (.func 126) #[] #[.pointer (some ⟨BC, 0, none⟩), .pointer (some ⟨BS, 0, none⟩)]] w fun e' w' => e' = .returned (.bool (l.any (grdB s i))) ∧ Below w.heap.size w w' := by
 have HI := Lib.hid (indexGrd_any s i BC BS l a n c w hl hs hi hx h1 h2 hc1 hc2)
 rw [← idx_any l 0]
 generalize idxFrom (grdB s i) l 0 = I at *
 clear hl hc1 hc2 hx
 go_enter Tryz.func125, Tryz.ntmps125
 go_wp2_with fail
 refine HI.out.mono ?_
 rintro e5 w5 ⟨rfl, hb5⟩
 go_wp2
 go_ret
 exact ⟨ret_bool rfl, hb5⟩
theorem grds_ok {m : Mac} (hm : MacV m) : ∀ g ∈ m.gs, (0 ≤ g.ci ∧ g.ci < 64) ∧ 0 ≤ g.op ∧ g.op < 64 := by
 intro g hg
 obtain ⟨k, hk, rfl⟩ := List.getElem_of_mem hg
 have h := hm.gs k hk
 have e : gAt m.gs k = m.gs[k] := gAt_get (List.getElem?_eq_getElem hk)
 rw [e] at h
 have hp : (2 : Int) ^ m.br.length ≤ 64 := by
  have := hm.n1
  generalize m.br.length = n at *
  have : n = 0 ∨ n = 1 ∨ n = 2 ∨ n = 3 ∨ n = 4 ∨ n = 5 ∨ n = 6 := by omega
  rcases this with rfl | rfl | rfl | rfl | rfl | rfl | rfl <;> decide
 omega
set_option maxRecDepth 100000 in
theorem mayChange_any (m : Mac) (s i : Nat) (ab ag : Option Addr) (nb cb ng cg : Nat) (w : World) (hm : MacV m) (hg : GrR w ag ng m.gs) (hs : s < 64) (hi : i < 8) :
    Calls Tryz.prog 92 #[.agg #[.slice ab nb cb, .int .i64 m.st, .slice ag ng cg], .int .i64 (s : Int), .int .i64 (i : Int)] w fun e' w' => e' = .returned (.bool (mayB m s i)) ∧ Below w.heap.size w w' := by
 have HC := Lib.hid (fun (W : World) (hbw : Below w.heap.size w W) (BC BS : Nat) (h1 : BC < W.heap.size) (h2 : BS < W.heap.size) (hc1 : W.cell? ⟨BC, 0, none⟩ = some (.int .i64 (i : Int))) (hc2 : W.cell? ⟨BS, 0, none⟩ = some (.int .i64 (s : Int))) => containsGrd_any s i BC BS m.gs ag ng cg W (hg.below hbw) hs hi (grds_ok hm) h1 h2 hc1 hc2)
 unfold mayB
 generalize m.gs.any (grdB s i) = V at *
 clear hg hm
 go_enter Tryz.func92, Tryz.ntmps92
 go_wp2_with fail
 refine (HC.out _ (by (first|exact bwg|go_size)) _ _ (by simp) (by simp) (by go_simp) (by go_simp)).mono ?_
 rintro e5 w5 ⟨rfl, hb5⟩
 go_wp2
 go_ret
 exact ⟨rfl, by (first|exact bwg|go_size)⟩
/- A range over a method value or a closure, whose rounds may leave: a round, the statement, and a return behind many such statements. -/
def twoPost (P : Program) (l : Nat) (rec : Loop) (R : Ending → World → Prop) : Exit → Act → World → Prop
 | .normal, _, W => W.heap[l]? = some (.loop { rec with state := .busy }) ∧ R (.returned (.bool true)) (W.putObj l (.loop rec))
 | .ret, _, W => W.heap[l]? = some (.loop { rec with state := .busy }) ∧ R (.returned (.bool false)) (W.putObj l (.loop { rec with state := .done, pending := some .ret }))
 | _, _, _ => False
theorem yield_two {P : Program} {m l : Nat} {xs : Array Value} {W : World} {R : Ending → World → Prop} {rec : Loop} (hl : W.heap[l]? = some (.loop rec)) (hst : rec.state = .ready) (hp : rec.pending = none) (hsz : xs.size = rec.params.size)
    (h : rec.assign.wpIn (Fence.wide.inRound l) m P (Exit.then (fun a1 W1 => W1.heap[l]? = some (.loop rec) ∧ rec.body.wpIn (Fence.wide.inRound l) m P (twoPost P l rec R) a1 (W1.putObj l (.loop { rec with state := .busy }))) (fun _ _ _ => False))
     { tmps := (rec.params.zip xs).foldl (fun t (p, v) => t.setIfInBounds p v) rec.tmps, defers := [] } W) :
    YieldAt Fence.wide m P l xs W R := by
 refine ⟨_, _, _, _, run_yield hl hsz, roundIn_of_wpIn trivial (wpIn_mono h ?_)⟩
 intro e a1 W1 hq
 cases e with
 | normal =>
  obtain ⟨h1, h2⟩ := hq
  refine ⟨_, run_beginRound h1 hst, wpIn_mono h2 ?_⟩
  intro e2 a2 W2 hq2
  cases e2 with
  | normal =>
   obtain ⟨h3, h4⟩ := hq2
   refine ⟨_, _, run_endRound none h3, ?_⟩
   have : ({ { rec with state := .busy } with state := if (none : Option Code).isNone then .ready else .done, pending := none } : Loop) = rec := by
    cases rec; simp_all
   simp only [this]
   exact h4
  | ret =>
   obtain ⟨h3, h4⟩ := hq2
   refine ⟨_, _, run_endRound (some .ret) h3, ?_⟩
   exact h4
  | _ => exact hq2.elim
 | _ => exact hq.elim
theorem range_two {P : Program} {n : Nat} {g : Operand} {ps : Array Tmp} {assign body : Code} {Q : Exit → Act → World → Prop} {a : Act} {w : World} {gf : Nat} {fst lst : Array Value}
    (hg : a.eval g = .func (.func gf) fst lst) (eg : ∀ args w, (callFunc gf args).run P w = .ok (.enter gf args) w)
    (h : ∀ rec : Loop, rec.state = .ready → rec.pending = none → rec.params = ps → rec.tmps = a.tmps → rec.assign = assign → rec.body = body →
     CallsIn Fence.wide (n - 1) P gf (fst ++ #[.func (.yield (w.heap.size + 1)) #[] #[]] ++ lst) ((w.alloc (.deferred (some []))).alloc (.loop rec)) fun e W => (∃ v, e = .returned v) ∧
      ((W.heap[w.heap.size + 1]? = some (.loop rec) ∧
       Q .normal { a with defers := { target := .collected w.heap.size, args := #[] } :: a.defers } (W.putObj (w.heap.size + 1) (.loop { rec with state := .exhausted }))) ∨
      (W.heap[w.heap.size + 1]? = some (.loop { rec with state := .done, pending := some .ret }) ∧
       Q .ret { a with defers := { target := .collected w.heap.size, args := #[] } :: a.defers } (W.putObj (w.heap.size + 1) (.loop { rec with state := .exhausted, pending := some .ret }))))) :
    (Code.rangeFunc g ps assign body).wpIn Fence.wide n P Q a w := by
 refine wpIn_rangeFunc ?_
 intro fn hfn
 obtain ⟨W1, hW1⟩ : ∃ W1, W1 = (w.alloc (.deferred (some []))).alloc (.loop { state := .ready, pending := none, fn := fn, tmps := a.tmps, params := ps, assign := assign, body := body, defers := w.heap.size }) := ⟨_, rfl⟩
 refine ⟨w.heap.size + 1, [{ target := .collected w.heap.size, args := #[] }], W1, { target := .fn (.func gf) lst, args := fst ++ #[.func (.yield (w.heap.size + 1)) #[] #[]] }, W1, gf, fst ++ #[.func (.yield (w.heap.size + 1)) #[] #[]] ++ lst, W1, by rw [hW1]; exact run_enterLoop_outer _ _ _ _ _, ?_, fun _ _ => trivial, ?_, fun h => by simp [Fence.wide] at h, ?_⟩
 ·simp only [resolve, hg]
  simp [go_sem]
 ·simp [invoke, go_sem, eg]
 ·rw [hW1]
  refine (h _ rfl rfl rfl rfl rfl rfl).mono ?_
  rintro e W ⟨⟨v, rfl⟩, (⟨h1, h2⟩ | ⟨h1, h2⟩)⟩
  ·exact ⟨none, _, by have := run_endLoop (P := P) h1 (by simp); exact this, h2⟩
  ·refine ⟨some .ret, _, by have := run_endLoop (P := P) h1 (by simp); exact this, ?_⟩
   exact wpIn_ret h2
def SameCells (A B : World) : Prop := ∀ (k : Nat) c t z, A.heap[k]? = some (.cells c t z) → B.heap[k]? = some (.cells c t z)
def mark (D : Nat) : Deferred := { target := .collected D, args := #[] }
theorem leaves_marks {P : Program} {F : Fence} {n : Nat} {fn : Func} {tmps : Array Value} {R : Ending → World → Prop} {B : Nat} {w0 : World} : ∀ (l : List Nat) (w : World), l.Nodup → (∀ D ∈ l, B ≤ D ∧ w.heap[D]? = some (.deferred (some []))) → Below B w0 w →
    (∀ w', SameCells w w' → Below B w0 w' → ∃ v, (results fn tmps).run P w' = .ok v w' ∧ R (.returned v) w') → LeavesInM F n P fn tmps R (l.map mark) .returning w
 | [], w, _, _, hb, h => h w (fun _ _ _ _ h => h) hb
 | D :: r, w, hn, hd, hb, h => by
  rw [List.nodup_cons] at hn
  have hD := hd D (by simp)
  refine ⟨by simp, .inl ⟨D, _, rfl, run_takeDeferred hD.2, ?_⟩⟩
  have hlt := (Array.getElem?_eq_some_iff.1 hD.2).1
  refine leaves_marks r _ hn.2 (fun E hE => ⟨(hd E (by simp [hE])).1, ?_⟩) (hb.trans ?_) (fun w' hs hb' => h w' (fun k c t z hk => hs k c t z ?_) hb')
  ·rw [World.putObj_heap_other (by rintro rfl; exact hn.1 hE)]
   exact (hd E (by simp [hE])).2
  ·exact (Below.refl B w).grown (grownBy_putObj' w D _) (by omega) (fun k e => by cases e; exact hD.1)
  ·rw [World.putObj_heap_other (fun e => ?_)]
   ·exact hk
   ·subst e; rw [hD.2] at hk; cases hk
end Go.Proofs.YtdjinmieogpgcaaGreat
