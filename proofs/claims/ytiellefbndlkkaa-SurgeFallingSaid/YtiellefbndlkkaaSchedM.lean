/- A region that draws its order, by a schedule in which operations that only read and operations that come in their one order alternate. -/
import Derived.Test.YtiellefbndlkkaaSched
namespace Go.Proofs.Ytiellefbndlkkaa
open Go.RowKit

section
variable {P : Program} {ops : Array Oper} {md : Region.Mode} {S : World → Prop} {Q : Exit → Act → World → Prop}

/-- true: the operation may be taken first; false: it is the only one that may come up. -/
def mixB (md : Region.Mode) (ops : Array Oper) : List (Bool × Nat) → Array Bool → Bool
  | [], listed => decide (Region.ready md ops listed = [])
  | (true, h) :: r, listed => (Region.ready md ops listed).contains h && Region.free md ops listed h && (match ops[h]? with | some o => plainOp o | none => false) && mixB md ops r (listed.setIfInBounds h true)
  | (false, t) :: r, listed => decide (Region.ready md ops listed = [t]) && mixB md ops r (listed.setIfInBounds t true)

def wpMix (P : Program) (ops : Array Oper) (S : World → Prop) (Q : Exit → Act → World → Prop) : List (Bool × Oper) → Act → World → Prop
  | [], a, w => Q .normal a w
  | (true, o) :: r, a, w => wpQuiet P ops S (fun a' => wpMix P ops S Q r a' w) [o] a
  | (false, o) :: r, a, w => wpList P ops (tailQ S Q (wpMix P ops S Q r)) [o] a w

def opsOf (ops : Array Oper) (l : List (Bool × Nat)) : List (Bool × Oper) := l.filterMap (fun x => (ops[x.2]?).map (fun o => (x.1, o)))

theorem mix_anyH (hsel : Region.noSelect ops = true) : ∀ (l : List (Bool × Nat)) (listed : Array Bool) (a : Act) (w : World), mixB md ops l listed = true → (∀ x ∈ l, x.2 < ops.size) → S w →
    wpMix P ops S Q (opsOf ops l) a w → wpAnyH P md ops (NoPanic Q) S l.length listed a w
  | [], listed, a, w, hB, _, _, h => by
    simp only [mixB, decide_eq_true_eq] at hB
    exact ⟨hB, h⟩
  | (true, x) :: r, listed, a, w, hB, hlt, hS, h => by
    simp only [mixB, Bool.and_eq_true] at hB
    have hx := hlt (true, x) (by simp)
    have ho : ops[x]? = some ops[x] := by simp [hx]
    rw [ho] at hB
    have h' : wpQuiet P ops S (fun a' => wpMix P ops S Q (opsOf ops r) a' w) [ops[x]] a := by
      have : opsOf ops ((true, x) :: r) = (true, ops[x]) :: opsOf ops r := by simp [opsOf, ho]
      rw [this] at h; exact h
    have hst : qOp P ops S x (wpQuiet P ops S (fun a' => wpMix P ops S Q (opsOf ops r) a' w) []) a := by unfold qOp; simp only [ho]; exact h'
    obtain ⟨v, hy, hK⟩ := yieldsIn_of_qOp ho hst
    exact wpAnyH_take ho hsel hB.1.1.2 hB.1.1.1 (fun _ _ _ h => h.elim) (yieldsIf_of_in hB.1.2 hy) hS (mix_anyH hsel r _ _ w hB.2 (fun y hy => hlt y (by simp [hy])) hS hK)
  | (false, t) :: r, listed, a, w, hB, hlt, hS, h => by
    simp only [mixB, Bool.and_eq_true, decide_eq_true_eq] at hB
    have ht := hlt (false, t) (by simp)
    have ho : ops[t]? = some ops[t] := by simp [ht]
    have h' : wpList P ops (tailQ S Q (wpMix P ops S Q (opsOf ops r))) [ops[t]] a w := by
      have : opsOf ops ((false, t) :: r) = (false, ops[t]) :: opsOf ops r := by simp [opsOf, ho]
      rw [this] at h; exact h
    refine wpAnyH_all hB.1 (by simp) (fun i hi => ?_)
    have hit : i = t := by simpa using hi
    subst hit
    refine wpOp_mono (fun a' w' hh => ⟨hh.1, ?_⟩) (wpOp_of_tail ho h')
    exact mix_anyH hsel r _ a' w' hB.2 (fun x hx => hlt x (by simp [hx])) hh.1 hh.2

def mixOk (ops : Array Oper) (l : List (Bool × Nat)) : Bool :=
  Region.noSelect ops && decide (l.length = ops.size) && l.all (fun x => decide (x.2 < ops.size)) && mixB .any ops l (Array.replicate ops.size false)

theorem wp_region_mix {id : Nat} {a : Act} {w : World} {l : List Oper} (sc : List (Bool × Nat)) (S : World → Prop) (hm : P.follows .mixedOrders = true) (hB : mixOk l.toArray sc = true) (hS : S w.drew)
    (h : wpMix P l.toArray S Q (opsOf l.toArray sc) a w.drew) : (Code.region id l.toArray true).wp P Q a w := by
  simp only [mixOk, Bool.and_eq_true, decide_eq_true_eq, List.all_eq_true] at hB
  obtain ⟨⟨⟨h1, h2⟩, h3⟩, h5⟩ := hB
  refine wp_region_noPanic (wp_region_held (S := S) hm ?_)
  rw [← h2] at h5 ⊢
  exact mix_anyH h1 sc _ a _ h5 (fun x hx => h3 x hx) hS h
end
section
variable {P : Program} {B : Nat}
theorem wp_region_laterM {id : Nat} {Q : Exit → Act → World → Prop} {a : Act} {w : World} {l : List Oper} (sc : List (Bool × Nat)) (hm : P.follows .mixedOrders = true) (hB : mixOk l.toArray sc = true)
    (h : wpMix P l.toArray (fun w' => ∃ u : LaterB B w, w' = u.world) Q (opsOf l.toArray sc) a w.drew) : (Code.region id l.toArray true).wp P Q a w :=
  wp_region_mix sc _ hm hB ⟨⟨_, (Below.refl B w).drew⟩, rfl⟩ h
theorem mix_head {ops : Array Oper} {S : World → Prop} {Q : Exit → Act → World → Prop} {o : Oper} {r : List (Bool × Oper)} {a : Act} {w : World} (h : wpQuiet P ops S (fun a' => wpMix P ops S Q r a' w) [o] a) : wpMix P ops S Q ((true, o) :: r) a w := h
theorem mix_tail {ops : Array Oper} {S : World → Prop} {Q : Exit → Act → World → Prop} {o : Oper} {r : List (Bool × Oper)} {a : Act} {w : World} (h : wpList P ops (tailQ S Q (wpMix P ops S Q r)) [o] a w) : wpMix P ops S Q ((false, o) :: r) a w := h
theorem mix_nil {ops : Array Oper} {S : World → Prop} {Q : Exit → Act → World → Prop} {a : Act} {w : World} (h : Q .normal a w) : wpMix P ops S Q [] a w := h
end
end Go.Proofs.Ytiellefbndlkkaa
