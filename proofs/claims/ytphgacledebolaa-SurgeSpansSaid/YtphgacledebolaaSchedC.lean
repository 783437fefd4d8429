import Derived.Test.YtphgacledebolaaMSch
/- A region that draws its order, by a schedule whose class of worlds becomes smaller behind a forced operation: what a call has handed out may then be read first. -/
namespace Go.Proofs.Ytphgacledebolaa
open Go.RowKit

section
variable {P : Program} {ops : Array Oper} {md : Region.Mode} {Q : Exit → Act → World → Prop}

theorem anyH_mono {S S' : World → Prop} (hs : ∀ w, S' w → S w) : ∀ (fuel : Nat) (listed : Array Bool) (a : Act) (w : World), wpAnyH P md ops Q S' fuel listed a w → wpAnyH P md ops Q S fuel listed a w
  | 0, _, _, _, h => h
  | fuel + 1, listed, a, w, h => by
    refine ⟨h.1, fun i hi => wpOp_mono (fun a' w' hh => ⟨hs _ hh.1, anyH_mono hs fuel _ a' w' hh.2⟩) (h.2 i hi)⟩

def wpMixC (P : Program) (ops : Array Oper) (Q : Exit → Act → World → Prop) : List (Bool × Oper) → (World → Prop) → Act → World → Prop
  | [], _, a, w => Q .normal a w
  | (true, o) :: r, S, a, w => wpQuiet P ops S (fun a' => wpMixC P ops Q r S a' w) [o] a
  | (false, o) :: r, S, a, w => wpList P ops (tailQ S Q (fun a' w' => ∃ S' : World → Prop, (∀ x, S' x → S x) ∧ S' w' ∧ wpMixC P ops Q r S' a' w')) [o] a w

theorem mixC_anyH (hsel : Region.noSelect ops = true) : ∀ (l : List (Bool × Nat)) (S : World → Prop) (listed : Array Bool) (a : Act) (w : World), mixB md ops l listed = true → (∀ x ∈ l, x.2 < ops.size) → S w →
    wpMixC P ops Q (opsOf ops l) S a w → wpAnyH P md ops (NoPanic Q) S l.length listed a w
  | [], S, listed, a, w, hB, _, _, h => by
    simp only [mixB, decide_eq_true_eq] at hB
    exact ⟨hB, h⟩
  | (true, x) :: r, S, listed, a, w, hB, hlt, hS, h => by
    simp only [mixB, Bool.and_eq_true] at hB
    have hx := hlt (true, x) (by simp)
    have ho : ops[x]? = some ops[x] := by simp [hx]
    rw [ho] at hB
    have h' : wpQuiet P ops S (fun a' => wpMixC P ops Q (opsOf ops r) S a' w) [ops[x]] a := by
      have : opsOf ops ((true, x) :: r) = (true, ops[x]) :: opsOf ops r := by simp [opsOf, ho]
      rw [this] at h; exact h
    have hst : qOp P ops S x (wpQuiet P ops S (fun a' => wpMixC P ops Q (opsOf ops r) S a' w) []) a := by unfold qOp; simp only [ho]; exact h'
    obtain ⟨v, hy, hK⟩ := yieldsIn_of_qOp ho hst
    exact wpAnyH_take ho hsel hB.1.1.2 hB.1.1.1 (fun _ _ _ h => h.elim) (yieldsIf_of_in hB.1.2 hy) hS (mixC_anyH hsel r S _ _ w hB.2 (fun y hy => hlt y (by simp [hy])) hS hK)
  | (false, t) :: r, S, listed, a, w, hB, hlt, hS, h => by
    simp only [mixB, Bool.and_eq_true, decide_eq_true_eq] at hB
    have ht := hlt (false, t) (by simp)
    have ho : ops[t]? = some ops[t] := by simp [ht]
    have h' : wpList P ops (tailQ S Q (fun a' w' => ∃ S' : World → Prop, (∀ x, S' x → S x) ∧ S' w' ∧ wpMixC P ops Q (opsOf ops r) S' a' w')) [ops[t]] a w := by
      have : opsOf ops ((false, t) :: r) = (false, ops[t]) :: opsOf ops r := by simp [opsOf, ho]
      rw [this] at h; exact h
    refine wpAnyH_all hB.1 (by simp) (fun i hi => ?_)
    have hit : i = t := by simpa using hi
    subst hit
    refine wpOp_mono (fun a' w' hh => ⟨hh.1, ?_⟩) (wpOp_of_tail ho h')
    obtain ⟨S', h1, h2, h3⟩ := hh.2
    exact anyH_mono h1 _ _ _ _ (mixC_anyH hsel r S' _ a' w' hB.2 (fun x hx => hlt x (by simp [hx])) h2 h3)

theorem wp_region_laterC {B b0 : Nat} {id : Nat} {a : Act} {w : World} {l : List Oper} (sc : List (Bool × Nat)) (hm : P.follows .mixedOrders = true) (hB : mixOk l.toArray sc = true)
    (h : wpMixC P l.toArray Q (opsOf l.toArray sc) (fun w' => ∃ u : LaterX B b0 w, w' = u.world) a w.drew) : (Code.region id l.toArray true).wp P Q a w := by
  simp only [mixOk, Bool.and_eq_true, decide_eq_true_eq, List.all_eq_true] at hB
  obtain ⟨⟨⟨h1, h2⟩, h3⟩, h5⟩ := hB
  refine wp_region_noPanic (wp_region_held (S := fun w' => ∃ u : LaterX B b0 w, w' = u.world) hm ?_)
  rw [← h2] at h5 ⊢
  exact mixC_anyH h1 sc _ _ a _ h5 (fun x hx => h3 x hx) ⟨⟨_, SameX.drew (fun _ _ _ _ => rfl)⟩, rfl⟩ h
theorem mixc_head {S : World → Prop} {o : Oper} {r : List (Bool × Oper)} {a : Act} {w : World} (h : wpQuiet P ops S (fun a' => wpMixC P ops Q r S a' w) [o] a) : wpMixC P ops Q ((true, o) :: r) S a w := h
theorem mixc_tail {S : World → Prop} {o : Oper} {r : List (Bool × Oper)} {a : Act} {w : World} (h : wpList P ops (tailQ S Q (fun a' w' => ∃ S' : World → Prop, (∀ x, S' x → S x) ∧ S' w' ∧ wpMixC P ops Q r S' a' w')) [o] a w) : wpMixC P ops Q ((false, o) :: r) S a w := h
theorem mixc_nil {S : World → Prop} {a : Act} {w : World} (h : Q .normal a w) : wpMixC P ops Q [] S a w := h
/-- The class stays. -/
theorem tailC_stay {B b0 : Nat} {r : List (Bool × Oper)} {a : Act} {w w' : World} (hs : SameX B b0 w w') (hk : wpMixC P ops Q r (fun x => ∃ u : LaterX B b0 w, x = u.world) a w') :
    tailQ (fun x => ∃ u : LaterX B b0 w, x = u.world) Q (fun a' w' => ∃ S' : World → Prop, (∀ x, S' x → (∃ u : LaterX B b0 w, x = u.world)) ∧ S' w' ∧ wpMixC P ops Q r S' a' w') .normal a w' :=
  ⟨⟨⟨w', hs⟩, rfl⟩, _, fun _ h => h, ⟨⟨w', hs⟩, rfl⟩, hk⟩
/-- A smaller class, from here on. -/
theorem tailC_new {B b0 : Nat} (B' : Nat) {r : List (Bool × Oper)} {a : Act} {w w' : World} (hs : SameX B b0 w w') (hB : B ≤ B') (hk : wpMixC P ops Q r (fun x => ∃ u : LaterX B' b0 w', x = u.world) a w') :
    tailQ (fun x => ∃ u : LaterX B b0 w, x = u.world) Q (fun a' w' => ∃ S' : World → Prop, (∀ x, S' x → (∃ u : LaterX B b0 w, x = u.world)) ∧ S' w' ∧ wpMixC P ops Q r S' a' w') .normal a w' := by
  refine ⟨⟨⟨w', hs⟩, rfl⟩, _, ?_, ⟨⟨w', fun _ _ _ _ => rfl⟩, rfl⟩, hk⟩
  rintro x ⟨u, rfl⟩
  exact ⟨⟨u.world, fun b o hb hne => (u.same b o (by omega) hne).trans (hs b o hb hne)⟩, rfl⟩
end
end Go.Proofs.Ytphgacledebolaa
