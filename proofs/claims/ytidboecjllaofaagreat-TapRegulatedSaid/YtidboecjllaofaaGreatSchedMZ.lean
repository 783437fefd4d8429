import Derived.Test.YtidboecjllaofaaGreatMD
import Derived.Test.YtidboecjllaofaaGreatMK
/- As SchedM, where the last operation comes behind all others and may store into what is read. -/
namespace Go.Proofs.YtidboecjllaofaaGreat
open Go.RowKit

section
variable {P : Program} {ops : Array Oper} {md : Region.Mode} {S : World → Prop} {Q : Exit → Act → World → Prop} {z : Nat}

def wpMixZ (P : Program) (ops : Array Oper) (S : World → Prop) (Q : Exit → Act → World → Prop) : List (Bool × Oper) → Act → World → Prop
  | [], a, w => Q .normal a w
  | [(false, o)], a, w => wpList P ops (tailQ (fun _ => True) Q (Q .normal)) [o] a w
  | (true, o) :: r, a, w => wpQuiet P ops S (fun a' => wpMixZ P ops S Q r a' w) [o] a
  | (false, o) :: r, a, w => wpList P ops (tailQ S Q (wpMixZ P ops S Q r)) [o] a w

theorem mixZ_any (hsel : Region.noSelect ops = true) : ∀ (l : List (Bool × Nat)) (listed : Array Bool) (a : Act) (w : World), mixB md ops l listed = true → (∀ x ∈ l, x.2 < ops.size) → (∀ x ∈ l, x.1 = true → waitsB md ops z x.2 = true) → (l = [] ∨ l.getLast? = some (false, z)) → S w →
    wpMixZ P ops S Q (opsOf ops l) a w → wpAnyZ P md ops (NoPanic Q) S z l.length listed a w
  | [], listed, a, w, hB, _, _, _, _, h => by
    simp only [mixB, decide_eq_true_eq] at hB
    exact ⟨hB, h⟩
  | (true, x) :: r, listed, a, w, hB, hlt, hw, hl, hS, h => by
    simp only [mixB, Bool.and_eq_true] at hB
    have hx := hlt (true, x) (by simp)
    have ho : ops[x]? = some ops[x] := by simp [hx]
    rw [ho] at hB
    have h' : wpQuiet P ops S (fun a' => wpMixZ P ops S Q (opsOf ops r) a' w) [ops[x]] a := by
      have : opsOf ops ((true, x) :: r) = (true, ops[x]) :: opsOf ops r := by simp [opsOf, ho]
      rw [this] at h
      cases hq : opsOf ops r with
      | nil => rw [hq] at h; exact h
      | cons y ys => rw [hq] at h; exact h
    have hst : qOp P ops S x (wpQuiet P ops S (fun a' => wpMixZ P ops S Q (opsOf ops r) a' w) []) a := by unfold qOp; simp only [ho]; exact h'
    obtain ⟨v, hy, hK⟩ := yieldsIn_of_qOp ho hst
    have hl' : r = [] ∨ r.getLast? = some (false, z) := by
      rcases hl with h | h
      · cases h
      · cases r with
        | nil => simp at h
        | cons y ys => exact .inr (by simpa using h)
    exact anyZ_first ho (Region.noSelect_spec hsel) (fun _ _ _ h => h.elim) (waitsB_spec (hw (true, x) (by simp) rfl)) _ _ _ _ (Region.free_spec ho hB.1.1.2) (by simpa using hB.1.1.1) (yieldsIf_of_in hB.1.2 hy) hS
      (mixZ_any hsel r _ _ w hB.2 (fun y hy => hlt y (by simp [hy])) (fun y hy => hw y (by simp [hy])) hl' hS hK)
  | [(false, t)], listed, a, w, hB, hlt, hw, hl, hS, h => by
    simp only [mixB, Bool.and_eq_true, decide_eq_true_eq] at hB
    have ht := hlt (false, t) (by simp)
    have ho : ops[t]? = some ops[t] := by simp [ht]
    have hz : t = z := by simpa using hl
    have h' : wpList P ops (tailQ (fun _ => True) Q (Q .normal)) [ops[t]] a w := by
      have : opsOf ops [(false, t)] = [(false, ops[t])] := by simp [opsOf, ho]
      rw [this] at h; exact h
    refine ⟨fun h0 => absurd (hB.1 ▸ h0) (by simp), fun i hi => ?_⟩
    have hit : i = t := by rw [hB.1] at hi; simpa using hi
    subst hit
    refine wpOp_mono (fun a' w' hh => ⟨.inl hz, ?_⟩) (wpOp_of_tail (S := fun _ => True) (K := Q .normal) ho h')
    exact ⟨hB.2, hh.2⟩
  | (false, t) :: y :: r, listed, a, w, hB, hlt, hw, hl, hS, h => by
    rw [show mixB md ops ((false, t) :: y :: r) listed = (decide (Region.ready md ops listed = [t]) && mixB md ops (y :: r) (listed.setIfInBounds t true)) from rfl, Bool.and_eq_true, decide_eq_true_eq] at hB
    have ht := hlt (false, t) (by simp)
    have hy := hlt y (by simp)
    have ho : ops[t]? = some ops[t] := by simp [ht]
    have hoy : ops[y.2]? = some ops[y.2] := by simp [hy]
    have h' : wpList P ops (tailQ S Q (wpMixZ P ops S Q (opsOf ops (y :: r)))) [ops[t]] a w := by
      have e1 : opsOf ops ((false, t) :: y :: r) = (false, ops[t]) :: opsOf ops (y :: r) := by simp [opsOf, ho]
      have e2 : opsOf ops (y :: r) = (y.1, ops[y.2]) :: opsOf ops r := by simp [opsOf, hoy]
      rw [e1, e2] at h
      rw [e2]
      exact h
    refine ⟨fun h0 => absurd (hB.1 ▸ h0) (by simp), fun i hi => ?_⟩
    have hit : i = t := by rw [hB.1] at hi; simpa using hi
    subst hit
    refine wpOp_mono (fun a' w' hh => ⟨.inr hh.1, ?_⟩) (wpOp_of_tail ho h')
    exact mixZ_any hsel (y :: r) _ a' w' hB.2 (fun x hx => hlt x (by simp [hx])) (fun x hx => hw x (by simp [hx])) (hl.elim (fun h => by cases h) (fun h => .inr (by simpa using h))) hh.1 hh.2

def mixOkZ (ops : Array Oper) (l : List (Bool × Nat)) (z : Nat) : Bool :=
  mixOk ops l && decide (l.getLast? = some (false, z)) && l.all (fun x => !x.1 || waitsB .any ops z x.2)

theorem wp_region_mixZ {B : Nat} {id : Nat} {a : Act} {w : World} {l : List Oper} (sc : List (Bool × Nat)) (z : Nat) (hm : P.follows .mixedOrders = true) (hB : mixOkZ l.toArray sc z = true)
    (h : wpMixZ P l.toArray (fun w' => ∃ u : LaterB B w, w' = u.world) Q (opsOf l.toArray sc) a w.drew) : (Code.region id l.toArray true).wp P Q a w := by
  simp only [mixOkZ, mixOk, Bool.and_eq_true, decide_eq_true_eq, List.all_eq_true] at hB
  obtain ⟨⟨⟨⟨⟨h1, h2⟩, h3⟩, h5⟩, h6⟩, h7⟩ := hB
  refine wp_region_noPanic (wp_region_any hm ?_)
  rw [← h2] at h5 ⊢
  refine any_of_Z (S := fun w' => ∃ u : LaterB B w, w' = u.world) (z := z) _ _ _ _ ?_
  exact mixZ_any h1 sc _ a _ h5 (fun x hx => h3 x hx) (fun x hx hb => by simpa [hb] using h7 x hx) (.inr h6) ⟨⟨_, (Below.refl B w).drew⟩, rfl⟩ h
theorem mixz_head {o o2 : Oper} {b : Bool} {r : List (Bool × Oper)} {a : Act} {w : World} (h : wpQuiet P ops S (fun a' => wpMixZ P ops S Q ((b, o2) :: r) a' w) [o] a) : wpMixZ P ops S Q ((true, o) :: (b, o2) :: r) a w := h
theorem mixz_tail {o o2 : Oper} {b : Bool} {r : List (Bool × Oper)} {a : Act} {w : World} (h : wpList P ops (tailQ S Q (wpMixZ P ops S Q ((b, o2) :: r))) [o] a w) : wpMixZ P ops S Q ((false, o) :: (b, o2) :: r) a w := h
theorem mixz_last {o : Oper} {a : Act} {w : World} (h : wpList P ops (tailQ (fun _ => True) Q (Q .normal)) [o] a w) : wpMixZ P ops S Q [(false, o)] a w := h
end
end Go.Proofs.YtidboecjllaofaaGreat
