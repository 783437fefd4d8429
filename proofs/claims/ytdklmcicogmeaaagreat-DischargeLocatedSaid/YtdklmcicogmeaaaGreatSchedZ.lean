import Derived.Test.YtdklmcicogmeaaaGreatMDRec
/- A region that draws its order, by a schedule whose last operation comes behind all others: what the heads read need not stand behind it. -/
namespace Go.Proofs.YtdklmcicogmeaaaGreat
open Go.RowKit

section
variable {P : Program} {ops : Array Oper} {md : Region.Mode} {S : World → Prop} {Q : Exit → Act → World → Prop} {z : Nat}

/-- Whatever order is picked; S holds behind each operation but the last one, z. -/
def wpAnyZ (P : Program) (md : Region.Mode) (ops : Array Oper) (Q : Exit → Act → World → Prop) (S : World → Prop) (z : Nat) : Nat → Array Bool → Act → World → Prop
  | 0, listed, a, w => Region.ready md ops listed = [] ∧ Q .normal a w
  | m + 1, listed, a, w => (Region.ready md ops listed = [] → Q .normal a w) ∧
      ∀ i ∈ Region.ready md ops listed, wpOp P ops Q i (fun a' w' => (i = z ∨ S w') ∧ wpAnyZ P md ops Q S z m (listed.setIfInBounds i true) a' w') a w

theorem any_of_Z : ∀ (m : Nat) (listed : Array Bool) (a : Act) (w : World), wpAnyZ P md ops Q S z m listed a w → wpAny P md ops Q m listed a w
  | 0, _, _, _, h => h
  | m + 1, _, _, _, h => ⟨h.1, fun i hi => wpOp_mono (fun a' w' hh => any_of_Z m _ a' w' hh.2) (h.2 i hi)⟩

/-- An operation i that z waits for may come first. -/
theorem anyZ_first {i : Nat} {oi : Oper} {v : Value} (hi : ops[i]? = some oi) (hsel : ∀ (j : Nat) (o : Oper) cs b, ops[j]? = some o → o.op ≠ .select cs b)
    (hQ : ∀ c a w, Q (.panic c) (a.put oi.dst v) w → Q (.panic c) a w) (hz : ∃ oz, ops[z]? = some oz ∧ ∃ e ∈ oz.after, Region.binds md e = true ∧ e.on = i) :
    ∀ (m : Nat) (listed : Array Bool) (a : Act) (w : World),
      (∀ j oj, ops[j]? = some oj → j ≠ i → listed.getD j true = false → (∀ e ∈ oj.after, Region.binds md e = true → e.on ≠ i) → oi.apart ops oj = true) →
      i ∈ Region.ready md ops listed → YieldsIf P ops S oi v a → S w →
      wpAnyZ P md ops Q S z m (listed.setIfInBounds i true) (a.put oi.dst v) w → wpAnyZ P md ops Q S z (m + 1) listed a w := by
  intro m
  induction m with
  | zero =>
    intro listed a w _ hr hy hS H
    refine ⟨fun h => (by rw [h] at hr; cases hr), fun j hj => ?_⟩
    by_cases hji : j = i
    · subst hji; exact hy.wpOp hi hS ⟨.inr hS, H⟩
    · have := ready_mono hj hji
      rw [H.1] at this
      cases this
  | succ m ih =>
    intro listed a w hfree hr hy hS H
    refine ⟨fun h => (by rw [h] at hr; cases hr), fun j hj => ?_⟩
    by_cases hji : j = i
    · subst hji; exact hy.wpOp hi hS ⟨.inr hS, H⟩
    · have h1 := H.2 j (ready_mono hj hji)
      obtain ⟨hjun, oj, hoj, hall⟩ := mem_ready.1 hj
      have hnot : ∀ e ∈ oj.after, Region.binds md e = true → e.on ≠ i := fun e he hb heq => by
        have h1 := hall e he hb
        have h0 := (mem_ready.1 hr).1
        rw [heq] at h1
        rcases Nat.lt_or_ge i listed.size with h' | h'
        · simp [h'] at h0 h1; rw [h0] at h1; cases h1
        · simp [Array.getElem?_eq_none h'] at h1
      have hjz : j ≠ z := by
        rintro rfl
        obtain ⟨oz, hoz, e, he, hb, hon⟩ := hz
        rw [hoz] at hoj
        cases hoj
        exact hnot e he hb hon
      have h2 := wpOp_putIf hoj (hfree j oj hoj hji hjun hnot) (fun cs b => hsel i oi cs b hi) (fun cs b => hsel j oj cs b hoj) hQ hy h1
      have hfree' : ∀ k ok, ops[k]? = some ok → k ≠ i → (listed.setIfInBounds j true).getD k true = false →
          (∀ e ∈ ok.after, Region.binds md e = true → e.on ≠ i) → oi.apart ops ok = true := fun k ok hk hki hun hno => by
        refine hfree k ok hk hki ?_ hno
        by_cases hjk : j = k
        · subst hjk; exact hjun
        · rw [getD_set_ne true hjk] at hun; exact hun
      refine wpOp_mono (fun a' w' h3 => ?_) h2
      rcases h3.2.1 with hq | hSw
      · exact absurd hq hjz
      · refine ⟨.inr hSw, ih (listed.setIfInBounds j true) a' w' hfree' (ready_mono hr (Ne.symm hji)) h3.1 hSw ?_⟩
        rw [Array.setIfInBounds_comm _ _ hji]
        exact h3.2.2

/-- What the tail's operations are walked towards; the last one towards the region's end. -/
def wpTailZ (P : Program) (ops : Array Oper) (S : World → Prop) (Q : Exit → Act → World → Prop) : List Oper → Act → World → Prop
  | [], a, w => Q .normal a w
  | [o], a, w => wpList P ops (tailQ (fun _ => True) Q (Q .normal)) [o] a w
  | o :: r, a, w => wpList P ops (tailQ S Q (wpTailZ P ops S Q r)) [o] a w

theorem tail_anyZ : ∀ (ts : List Nat) (listed : Array Bool) (a : Act) (w : World), tailB md ops ts listed = true → (∀ t ∈ ts, t < ops.size) → ts.getLast? = some z ∨ ts = [] →
    wpTailZ P ops S Q (ts.filterMap (ops[·]?)) a w → wpAnyZ P md ops (NoPanic Q) S z ts.length listed a w
  | [], listed, a, w, hB, _, _, h => by
    simp only [tailB, decide_eq_true_eq] at hB
    exact ⟨hB, h⟩
  | [t], listed, a, w, hB, hlt, hl, h => by
    simp only [tailB, Bool.and_eq_true, decide_eq_true_eq] at hB
    have ht := hlt t (by simp)
    have ho : ops[t]? = some ops[t] := by simp [ht]
    rw [List.filterMap_cons_some ho] at h
    have hz : t = z := by simpa using hl
    refine ⟨fun h0 => absurd (hB.1 ▸ h0) (by simp), fun i hi => ?_⟩
    have hit : i = t := by rw [hB.1] at hi; simpa using hi
    subst hit
    refine wpOp_mono (fun a' w' hh => ⟨.inl hz, ?_⟩) (wpOp_of_tail (S := fun _ => True) (K := Q .normal) ho h)
    exact ⟨hB.2, hh.2⟩
  | t :: t2 :: ts, listed, a, w, hB, hlt, hl, h => by
    rw [show tailB md ops (t :: t2 :: ts) listed = (decide (Region.ready md ops listed = [t]) && tailB md ops (t2 :: ts) (listed.setIfInBounds t true)) from rfl, Bool.and_eq_true, decide_eq_true_eq] at hB
    have ht := hlt t (by simp)
    have ht2 := hlt t2 (by simp)
    have ho : ops[t]? = some ops[t] := by simp [ht]
    have ho2 : ops[t2]? = some ops[t2] := by simp [ht2]
    rw [List.filterMap_cons_some ho] at h
    have h' : wpList P ops (tailQ S Q (wpTailZ P ops S Q ((t2 :: ts).filterMap (ops[·]?)))) [ops[t]] a w := by
      rw [List.filterMap_cons_some ho2] at h ⊢
      exact h
    refine ⟨fun h0 => absurd (hB.1 ▸ h0) (by simp), fun i hi => ?_⟩
    have hit : i = t := by rw [hB.1] at hi; simpa using hi
    subst hit
    refine wpOp_mono (fun a' w' hh => ⟨.inr hh.1, ?_⟩) (wpOp_of_tail ho h')
    exact tail_anyZ (t2 :: ts) _ a' w' hB.2 (fun x hx => hlt x (by simp [hx])) (by simpa using hl) hh.2

/-- z waits for i. -/
def waitsB (md : Region.Mode) (ops : Array Oper) (z i : Nat) : Bool :=
  match ops[z]? with | some oz => oz.after.any (fun e => Region.binds md e && decide (e.on = i)) | none => false
theorem waitsB_spec {i : Nat} (h : waitsB md ops z i = true) : ∃ oz, ops[z]? = some oz ∧ ∃ e ∈ oz.after, Region.binds md e = true ∧ e.on = i := by
  unfold waitsB at h
  split at h
  · rename_i oz hz
    rw [Array.any_eq_true'] at h
    obtain ⟨e, he, hb⟩ := h
    simp only [Bool.and_eq_true, decide_eq_true_eq] at hb
    exact ⟨oz, hz, e, he, hb.1, hb.2⟩
  · cases h

theorem head_anyZ (hsel : Region.noSelect ops = true) (ts : List Nat) (hlt : ∀ t ∈ ts, t < ops.size) (hl : ts.getLast? = some z ∨ ts = []) : ∀ (hs : List Nat) (listed : Array Bool) (a : Act) (w : World), schedB md ops ts hs listed = true → (∀ t ∈ hs, t < ops.size) → (∀ t ∈ hs, waitsB md ops z t = true) → S w →
    wpQuiet P ops S (fun a' => wpTailZ P ops S Q (ts.filterMap (ops[·]?)) a' w) (hs.filterMap (ops[·]?)) a → wpAnyZ P md ops (NoPanic Q) S z (hs.length + ts.length) listed a w
  | [], listed, a, w, hB, _, _, hS, h => by
    rw [List.length_nil, Nat.zero_add]
    exact tail_anyZ ts listed a w (by simpa only [schedB] using hB) hlt hl h
  | x :: hs, listed, a, w, hB, hlh, hwt, hS, h => by
    simp only [schedB, Bool.and_eq_true] at hB
    have hx := hlh x (by simp)
    have ho : ops[x]? = some ops[x] := by simp [hx]
    rw [List.filterMap_cons_some ho] at h
    rw [ho] at hB
    have hst : qOp P ops S x (wpQuiet P ops S (fun a' => wpTailZ P ops S Q (ts.filterMap (ops[·]?)) a' w) (hs.filterMap (ops[·]?))) a := by unfold qOp; simp only [ho]; exact h
    obtain ⟨v, hy, hK⟩ := yieldsIn_of_qOp ho hst
    rw [List.length_cons, show hs.length + 1 + ts.length = (hs.length + ts.length) + 1 by omega]
    exact anyZ_first ho (Region.noSelect_spec hsel) (fun _ _ _ h => h.elim) (waitsB_spec (hwt x (by simp))) _ _ _ _ (Region.free_spec ho hB.1.1.2) (by simpa using hB.1.1.1) (yieldsIf_of_in hB.1.2 hy) hS
      (head_anyZ hsel ts hlt hl hs _ _ w hB.2 (fun y hy => hlh y (by simp [hy])) (fun y hy => hwt y (by simp [hy])) hS hK)

def schedOkZ (ops : Array Oper) (hs ts : List Nat) (z : Nat) : Bool :=
  schedOk ops hs ts && decide (ts.getLast? = some z) && hs.all (waitsB .any ops z)

theorem wp_region_schedZ {id : Nat} {a : Act} {w : World} {l : List Oper} (hs ts : List Nat) (z : Nat) (S : World → Prop) (hm : P.follows .mixedOrders = true) (hB : schedOkZ l.toArray hs ts z = true) (hS : S w.drew)
    (h : wpQuiet P l.toArray S (fun a' => wpTailZ P l.toArray S Q (ts.filterMap (l[·]?)) a' w.drew) (hs.filterMap (l[·]?)) a) : (Code.region id l.toArray true).wp P Q a w := by
  simp only [schedOkZ, schedOk, Bool.and_eq_true, decide_eq_true_eq, List.all_eq_true] at hB
  obtain ⟨⟨⟨⟨⟨⟨h1, h2⟩, h3⟩, h4⟩, h5⟩, h6⟩, h7⟩ := hB
  refine wp_region_noPanic (wp_region_any hm ?_)
  rw [← h2] at h5 ⊢
  refine any_of_Z (S := S) (z := z) _ _ _ _ ?_
  exact head_anyZ h1 ts (fun t ht => by simpa using h4 t ht) (.inl h6) hs _ a _ h5 (fun t ht => by simpa using h3 t ht) h7 hS (by simpa using h)
end
section
variable {P : Program} {B : Nat}
theorem wp_region_laterZ {id : Nat} {Q : Exit → Act → World → Prop} {a : Act} {w : World} {l : List Oper} (hs ts : List Nat) (z : Nat) (hm : P.follows .mixedOrders = true) (hB : schedOkZ l.toArray hs ts z = true)
    (h : wpQuiet P l.toArray (fun w' => ∃ u : LaterB B w, w' = u.world) (fun a' => wpTailZ P l.toArray (fun w' => ∃ u : LaterB B w, w' = u.world) Q (ts.filterMap (l[·]?)) a' w.drew) (hs.filterMap (l[·]?)) a) : (Code.region id l.toArray true).wp P Q a w :=
  wp_region_schedZ hs ts z _ hm hB ⟨⟨_, (Below.refl B w).drew⟩, rfl⟩ h
theorem tailZ_cons {ops : Array Oper} {S : World → Prop} {Q : Exit → Act → World → Prop} {o o2 : Oper} {r : List Oper} {a : Act} {w : World} (h : wpList P ops (tailQ S Q (wpTailZ P ops S Q (o2 :: r))) [o] a w) : wpTailZ P ops S Q (o :: o2 :: r) a w := h
theorem tailZ_last {ops : Array Oper} {S : World → Prop} {Q : Exit → Act → World → Prop} {o : Oper} {a : Act} {w : World} (h : wpList P ops (tailQ (fun _ => True) Q (Q .normal)) [o] a w) : wpTailZ P ops S Q [o] a w := h
theorem tailZ_end {Q : Exit → Act → World → Prop} {K : Act → World → Prop} {a : Act} {w : World} (hk : K a w) : tailQ (fun _ => True) Q K .normal a w := ⟨trivial, hk⟩
end
end Go.Proofs.YtdklmcicogmeaaaGreat
