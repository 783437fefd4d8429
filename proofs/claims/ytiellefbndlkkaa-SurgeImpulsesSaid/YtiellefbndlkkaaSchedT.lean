/- A region that draws its order, by a tree of schedules: reads first, forced operations, and forks where one of two comes. -/
import Derived.Test.YtiellefbndlkkaaSched
namespace Go.Proofs.Ytiellefbndlkkaa
open Go.RowKit

inductive Sch where
  | done : Sch
  | head : Nat → Sch → Sch
  | one : Nat → Sch → Sch
  | two : Nat → Sch → Nat → Sch → Sch

def Sch.depth : Sch → Nat
  | .done => 0
  | .head _ k => k.depth + 1
  | .one _ k => k.depth + 1
  | .two _ k _ l => max k.depth l.depth + 1

section
variable {P : Program} {l : List Oper} {md : Region.Mode} {S : World → Prop} {Q : Exit → Act → World → Prop}

def treeB (md : Region.Mode) (ops : Array Oper) : Sch → Array Bool → Bool
  | .done, listed => decide (Region.ready md ops listed = [])
  | .head h k, listed => (Region.ready md ops listed).contains h && Region.free md ops listed h && (match ops[h]? with | some o => plainOp o | none => false) && treeB md ops k (listed.setIfInBounds h true)
  | .one t k, listed => decide (Region.ready md ops listed = [t]) && decide (t < ops.size) && treeB md ops k (listed.setIfInBounds t true)
  | .two i k j m, listed => decide (Region.ready md ops listed = [i, j]) && decide (i < ops.size) && decide (j < ops.size) && treeB md ops k (listed.setIfInBounds i true) && treeB md ops m (listed.setIfInBounds j true)

def wpTree (P : Program) (l : List Oper) (S : World → Prop) (Q : Exit → Act → World → Prop) : Sch → Act → World → Prop
  | .done, a, w => Q .normal a w
  | .head h k, a, w => match l[h]? with | some o => wpQuiet P l.toArray S (fun a' => wpTree P l S Q k a' w) [o] a | none => False
  | .one t k, a, w => match l[t]? with | some o => wpList P l.toArray (tailQ S Q (wpTree P l S Q k)) [o] a w | none => False
  | .two i k j m, a, w => (match l[i]? with | some o => wpList P l.toArray (tailQ S Q (wpTree P l S Q k)) [o] a w | none => False) ∧
      (match l[j]? with | some o => wpList P l.toArray (tailQ S Q (wpTree P l S Q m)) [o] a w | none => False)

theorem tree_anyH (hsel : Region.noSelect l.toArray = true) : ∀ (s : Sch) (fuel : Nat) (listed : Array Bool) (a : Act) (w : World), s.depth ≤ fuel → treeB md l.toArray s listed = true → S w →
    wpTree P l S Q s a w → wpAnyH P md l.toArray (NoPanic Q) S fuel listed a w
  | .done, fuel, listed, a, w, _, hB, _, h => by
    simp only [treeB, decide_eq_true_eq] at hB
    exact wpAnyH_done (Q := NoPanic Q) hB h fuel
  | .head x k, 0, listed, a, w, hd, _, _, _ => by simp [Sch.depth] at hd
  | .one x k, 0, listed, a, w, hd, _, _, _ => by simp [Sch.depth] at hd
  | .two x k y m, 0, listed, a, w, hd, _, _, _ => by simp [Sch.depth] at hd
  | .head x k, fuel + 1, listed, a, w, hd, hB, hS, h => by
    simp only [treeB, Bool.and_eq_true] at hB
    simp only [Sch.depth] at hd
    have hx : x < l.length := by
      have h2 := hB.1.2
      by_cases hx : x < l.length
      · exact hx
      · rw [Array.getElem?_eq_none (by simpa using hx)] at h2; cases h2
    have ho : l.toArray[x]? = some l[x] := by simp [hx]
    have ho' : l[x]? = some l[x] := by simp [hx]
    rw [ho] at hB
    simp only [wpTree, ho'] at h
    have hst : qOp P l.toArray S x (wpQuiet P l.toArray S (fun a' => wpTree P l S Q k a' w) []) a := by unfold qOp; simp only [ho]; exact h
    obtain ⟨v, hy, hK⟩ := yieldsIn_of_qOp ho hst
    exact wpAnyH_take ho hsel hB.1.1.2 hB.1.1.1 (fun _ _ _ h => h.elim) (yieldsIf_of_in hB.1.2 hy) hS (tree_anyH hsel k fuel _ _ w (by omega) hB.2 hS hK)
  | .one t k, fuel + 1, listed, a, w, hd, hB, hS, h => by
    simp only [treeB, Bool.and_eq_true, decide_eq_true_eq] at hB
    simp only [Sch.depth] at hd
    have ht : t < l.length := by simpa using hB.1.2
    have ho : l.toArray[t]? = some l[t] := by simp [ht]
    have ho' : l[t]? = some l[t] := by simp [ht]
    simp only [wpTree, ho'] at h
    refine wpAnyH_all hB.1.1 (by simp) (fun i hi => ?_)
    have hit : i = t := by simpa using hi
    subst hit
    exact wpOp_mono (fun a' w' hh => ⟨hh.1, tree_anyH hsel k fuel _ a' w' (by omega) hB.2 hh.1 hh.2⟩) (wpOp_of_tail ho h)
  | .two x k y m, fuel + 1, listed, a, w, hd, hB, hS, h => by
    simp only [treeB, Bool.and_eq_true, decide_eq_true_eq] at hB
    simp only [Sch.depth] at hd
    obtain ⟨⟨⟨⟨hr, hx⟩, hy⟩, hk⟩, hm⟩ := hB
    have hx' : x < l.length := by simpa using hx
    have hy' : y < l.length := by simpa using hy
    have ho : l.toArray[x]? = some l[x] := by simp [hx']
    have ho' : l[x]? = some l[x] := by simp [hx']
    have hq : l.toArray[y]? = some l[y] := by simp [hy']
    have hq' : l[y]? = some l[y] := by simp [hy']
    simp only [wpTree, ho', hq'] at h
    refine wpAnyH_all hr (by simp) (fun i hi => ?_)
    rcases (by simpa using hi : i = x ∨ i = y) with rfl | rfl
    · exact wpOp_mono (fun a' w' hh => ⟨hh.1, tree_anyH hsel k fuel _ a' w' (by omega) hk hh.1 hh.2⟩) (wpOp_of_tail ho h.1)
    · exact wpOp_mono (fun a' w' hh => ⟨hh.1, tree_anyH hsel m fuel _ a' w' (by omega) hm hh.1 hh.2⟩) (wpOp_of_tail hq h.2)

def treeOk (ops : Array Oper) (s : Sch) : Bool :=
  Region.noSelect ops && decide (s.depth ≤ ops.size) && treeB .any ops s (Array.replicate ops.size false)

theorem wp_region_tree {id : Nat} {a : Act} {w : World} (s : Sch) (S : World → Prop) (hm : P.follows .mixedOrders = true) (hB : treeOk l.toArray s = true) (hS : S w.drew)
    (h : wpTree P l S Q s a w.drew) : (Code.region id l.toArray true).wp P Q a w := by
  simp only [treeOk, Bool.and_eq_true, decide_eq_true_eq] at hB
  refine wp_region_noPanic (wp_region_held (S := S) hm ?_)
  exact tree_anyH hB.1.1 s _ _ a _ hB.1.2 hB.2 hS h

theorem wp_region_laterT {B : Nat} {id : Nat} {a : Act} {w : World} (s : Sch) (hm : P.follows .mixedOrders = true) (hB : treeOk l.toArray s = true)
    (h : wpTree P l (fun w' => ∃ u : LaterB B w, w' = u.world) Q s a w.drew) : (Code.region id l.toArray true).wp P Q a w :=
  wp_region_tree s _ hm hB ⟨⟨_, (Below.refl B w).drew⟩, rfl⟩ h
theorem tree_head {h : Nat} {o : Oper} {k : Sch} {a : Act} {w : World} (ho : l[h]? = some o) (hh : wpQuiet P l.toArray S (fun a' => wpTree P l S Q k a' w) [o] a) : wpTree P l S Q (.head h k) a w := by
  simp only [wpTree, ho]; exact hh
theorem tree_one {t : Nat} {o : Oper} {k : Sch} {a : Act} {w : World} (ho : l[t]? = some o) (hh : wpList P l.toArray (tailQ S Q (wpTree P l S Q k)) [o] a w) : wpTree P l S Q (.one t k) a w := by
  simp only [wpTree, ho]; exact hh
theorem tree_two {i j : Nat} {o o2 : Oper} {k m : Sch} {a : Act} {w : World} (ho : l[i]? = some o) (hq : l[j]? = some o2) (h1 : wpList P l.toArray (tailQ S Q (wpTree P l S Q k)) [o] a w) (h2 : wpList P l.toArray (tailQ S Q (wpTree P l S Q m)) [o2] a w) : wpTree P l S Q (.two i k j m) a w := by
  simp only [wpTree, ho, hq]; exact ⟨h1, h2⟩
theorem tree_done {a : Act} {w : World} (h : Q .normal a w) : wpTree P l S Q .done a w := h
end
end Go.Proofs.Ytiellefbndlkkaa
