import Derived.Test.YtidboecjllaofaaGreatMB
/- A region that draws its order, by a schedule whose last operation comes behind all others: what the heads read need not stand behind it. -/
namespace Go.Proofs.YtidboecjllaofaaGreat
open Go.RowKit

section
variable {P : Program} {ops : Array Oper} {md : Region.Mode} {S : World → Prop} {Q : Exit → Act → World → Prop} {z : Nat}

/-- Whatever order is picked; S holds behind each operation but the last one, z. -/
def wpAnyZ (P : Program) (md : Region.Mode) (ops : Array Oper) (Q : Exit → Act → World → Prop) (S : World → Prop) (z : Nat) : Nat → Array Bool → Act → World → Prop
  | 0, listed, a, w => Region.ready md ops listed = [] ∧ Q .normal a w
  | m + 1, listed, a, w => (Region.ready md ops listed = [] → Q .normal a w) ∧
      ∀ i ∈ Region.ready md ops listed, wpOp P ops Q i (fun a' w' => (i = z ∨ S w') ∧ wpAnyZ P md ops Q S z m (listed.setIfInBounds i true) a' w') a w

theorem any_of_Z : ∀ (m : Nat) (listed : Array Bool) (a : Act) (w : World), wpAnyZ P md ops Q S z m listed a w → wpAny P md ops Q m listed a w
  | 0, _, _, _, h => h
  | m + 1, _, _, _, h => ⟨h.1, fun i hi => wpOp_mono (fun a' w' hh => any_of_Z m _ a' w' hh.2) (h.2 i hi)⟩

/-- An operation i that z waits for may come first. -/
theorem anyZ_first {i : Nat} {oi : Oper} {v : Value} (hi : ops[i]? = some oi) (hsel : ∀ (j : Nat) (o : Oper) cs b, ops[j]? = some o → o.op ≠ .select cs b)
    (hQ : ∀ c a w, Q (.panic c) (a.put oi.dst v) w → Q (.panic c) a w) (hz : ∃ oz, ops[z]? = some oz ∧ ∃ e ∈ oz.after, Region.binds md e = true ∧ e.on = i) :
    ∀ (m : Nat) (listed : Array Bool) (a : Act) (w : World),
      (∀ j oj, ops[j]? = some oj → j ≠ i → listed.getD j true = false → (∀ e ∈ oj.after, Region.binds md e = true → e.on ≠ i) → oi.apart ops oj = true) →
      i ∈ Region.ready md ops listed → YieldsIf P ops S oi v a → S w →
      wpAnyZ P md ops Q S z m (listed.setIfInBounds i true) (a.put oi.dst v) w → wpAnyZ P md ops Q S z (m + 1) listed a w := by
  intro m
  induction m with
  | zero =>
    intro listed a w _ hr hy hS H
    refine ⟨fun h => (by rw [h] at hr; cases hr), fun j hj => ?_⟩
    by_cases hji : j = i
    · subst hji; exact hy.wpOp hi hS ⟨.inr hS, H⟩
    · have := ready_mono hj hji
      rw [H.1] at this
      cases this
  | succ m ih =>
    intro listed a w hfree hr hy hS H
    refine ⟨fun h => (by rw [h] at hr; cases hr), fun j hj => ?_⟩
    by_cases hji : j = i
    · subst hji; exact hy.wpOp hi hS ⟨.inr hS, H⟩
    · have h1 := H.2 j (ready_mono hj hji)
      obtain ⟨hjun, oj, hoj, hall⟩ := mem_ready.1 hj
      have hnot : ∀ e ∈ oj.after, Region.binds md e = true → e.on ≠ i := fun e he hb heq => by
        have h1 := hall e he hb
        have h0 := (mem_ready.1 hr).1
        rw [heq] at h1
        rcases Nat.lt_or_ge i listed.size with h' | h'
        · simp [h'] at h0 h1; rw [h0] at h1; cases h1
        · simp [Array.getElem?_eq_none h'] at h1
      have hjz : j ≠ z := by
        rintro rfl
        obtain ⟨oz, hoz, e, he, hb, hon⟩ := hz
        rw [hoz] at hoj
        cases hoj
        exact hnot e he hb hon
      have h2 := wpOp_putIf hoj (hfree j oj hoj hji hjun hnot) (fun cs b => hsel i oi cs b hi) (fun cs b => hsel j oj cs b hoj) hQ hy h1
      have hfree' : ∀ k ok, ops[k]? = some ok → k ≠ i → (listed.setIfInBounds j true).getD k true = false →
          (∀ e ∈ ok.after, Region.binds md e = true → e.on ≠ i) → oi.apart ops ok = true := fun k ok hk hki hun hno => by
        refine hfree k ok hk hki ?_ hno
        by_cases hjk : j = k
        · subst hjk; exact hjun
        · rw [getD_set_ne true hjk] at hun; exact hun
      refine wpOp_mono (fun a' w' h3 => ?_) h2
      rcases h3.2.1 with hq | hSw
      · exact absurd hq hjz
      · refine ⟨.inr hSw, ih (listed.setIfInBounds j true) a' w' hfree' (ready_mono hr (Ne.symm hji)) h3.1 hSw ?_⟩
        rw [Array.setIfInBounds_comm _ _ hji]
        exact h3.2.2

/-- What the tail's operations are walked towards; the last one towards the region's end. -/
def wpTailZ (P : Program) (ops : Array Oper) (S : World → Prop) (Q : Exit → Act → World → Prop) : List Oper → Act → World → Prop
  | [], a, w => Q .normal a w
  | [o], a, w => wpList P ops (tailQ (fun _ => True) Q (Q .normal)) [o] a w
  | o :: r, a, w => wpList P ops (tailQ S Q (wpTailZ P ops S Q r)) [o] a w

theorem tail_anyZ : ∀ (ts : List Nat) (listed : Array Bool) (a : Act) (w : World), tailB md ops ts listed = true → (∀ t ∈ ts, t < ops.size) → ts.getLast? = some z ∨ ts = [] →
    wpTailZ P ops S Q (ts.filterMap (ops[·]?)) a w → wpAnyZ P md ops (NoPanic Q) S z ts.length listed a w
  | [], listed, a, w, hB, _, _, h => by
    simp only [tailB, decide_eq_true_eq] at hB
    exact ⟨hB, h⟩
  | [t], listed, a, w, hB, hlt, hl, h => by
    simp only [tailB, Bool.and_eq_true, decide_eq_true_eq] at hB
    have ht := hlt t (by simp)
    have ho : ops[t]? = some ops[t] := by simp [ht]
    rw [List.filterMap_cons_some ho] at h
    have hz : t = z := by simpa using hl
    refine ⟨fun h0 => absurd (hB.1 ▸ h0) (by simp), fun i hi => ?_⟩
    have hit : i = t := by rw [hB.1] at hi; simpa using hi
    subst hit
    refine wpOp_mono (fun a' w' hh => ⟨.inl hz, ?_⟩) (wpOp_of_tail (S := fun _ => True) (K := Q .normal) ho h)
    exact ⟨hB.2, hh.2⟩
  | t :: t2 :: ts, listed, a, w, hB, hlt, hl, h => by
    rw [show tailB md ops (t :: t2 :: ts) listed = (decide (Region.ready md ops listed = [t]) && tailB md ops (t2 :: ts) (listed.setIfInBounds t true)) from rfl, Bool.and_eq_true, decide_eq_true_eq] at hB
    have ht := hlt t (by simp)
    have ht2 := hlt t2 (by simp)
    have ho : ops[t]? = some ops[t] := by simp [ht]
    have ho2 : ops[t2]? = some ops[t2] := by simp [ht2]
    rw [List.filterMap_cons_some ho] at h
    have h' : wpList P ops (tailQ S Q (wpTailZ P ops S Q ((t2 :: ts).filterMap (ops[·]?)))) [ops[t]] a w := by
      rw [List.filterMap_cons_some ho2] at h ⊢
      exact h
    refine ⟨fun h0 => absurd (hB.1 ▸ h0) (by simp), fun i hi => ?_⟩
    have hit : i = t := by rw [hB.1] at hi; simpa using hi
    subst hit
    refine wpOp_mono (fun a' w' hh => ⟨.inr hh.1, ?_⟩) (wpOp_of_tail ho h')
    exact tail_anyZ (t2 :: ts) _ a' w' hB.2 (fun x hx => hlt x (by simp [hx])) (by simpa using hl) hh.2

/-- z waits for i. -/
def waitsB (md : Region.Mode) (ops : Array Oper) (z i : Nat) : Bool :=
  match ops[z]? with | some oz => oz.after.any (fun e => Region.binds md e && decide (e.on = i)) | none => false
theorem waitsB_spec {i : Nat} (h : waitsB md ops z i = true) : ∃ oz, ops[z]? = some oz ∧ ∃ e ∈ oz.after, Region.binds md e = true ∧ e.on = i := by
  unfold waitsB at h
  split at h
  · rename_i oz hz
    rw [Array.any_eq_true'] at h
    obtain ⟨e, he, hb⟩ := h
    simp only [Bool.and_eq_true, decide_eq_true_eq] at hb
    exact ⟨oz, hz, e, he, hb.1, hb.2⟩
  · cases h

theorem head_anyZ (hsel : Region.noSelect ops = true) (ts : List Nat) (hlt : ∀ t ∈ ts, t < ops.size) (hl : ts.getLast? = some z ∨ ts = []) : ∀ (hs : List Nat) (listed : Array Bool) (a : Act) (w : World), schedB md ops ts hs listed = true → (∀ t ∈ hs, t < ops.size) → (∀ t ∈ hs, waitsB md ops z t = true) → S w →
    wpQuiet P ops S (fun a' => wpTailZ P ops S Q (ts.filterMap (ops[·]?)) a' w) (hs.filterMap (ops[·]?)) a → wpAnyZ P md ops (NoPanic Q) S z (hs.length + ts.length) listed a w
  | [], listed, a, w, hB, _, _, hS, h => by
    rw [List.length_nil, Nat.zero_add]
    exact tail_anyZ ts listed a w (by simpa only [schedB] using hB) hlt hl h
  | x :: hs, listed, a, w, hB, hlh, hwt, hS, h => by
    simp only [schedB, Bool.and_eq_true] at hB
    have hx := hlh x (by simp)
    have ho : ops[x]? = some ops[x] := by simp [hx]
    rw [List.filterMap_cons_some ho] at h
    rw [ho] at hB
    have hst : qOp P ops S x (wpQuiet P ops S (fun a' => wpTailZ P ops S Q (ts.filterMap (ops[·]?)) a' w) (hs.filterMap (ops[·]?))) a := by unfold qOp; simp only [ho]; exact h
    obtain ⟨v, hy, hK⟩ := yieldsIn_of_qOp ho hst
    rw [List.length_cons, show hs.length + 1 + ts.length = (hs.length + ts.length) + 1 by omega]
    exact anyZ_first ho (Region.noSelect_spec hsel) (fun _ _ _ h => h.elim) (waitsB_spec (hwt x (by simp))) _ _ _ _ (Region.free_spec ho hB.1.1.2) (by simpa using hB.1.1.1) (yieldsIf_of_in hB.1.2 hy) hS
      (head_anyZ hsel ts hlt hl hs _ _ w hB.2 (fun y hy => hlh y (by simp [hy])) (fun y hy => hwt y (by simp [hy])) hS hK)

def schedOkZ (ops : Array Oper) (hs ts : List Nat) (z : Nat) : Bool :=
  schedOk ops hs ts && decide (ts.getLast? = some z) && hs.all (waitsB .any ops z)

theorem wp_region_schedZ {id : Nat} {a : Act} {w : World} {l : List Oper} (hs ts : List Nat) (z : Nat) (S : World → Prop) (hm : P.follows .mixedOrders = true) (hB : schedOkZ l.toArray hs ts z = true) (hS : S w.drew)
    (h : wpQuiet P l.toArray S (fun a' => wpTailZ P l.toArray S Q (ts.filterMap (l[·]?)) a' w.drew) (hs.filterMap (l[·]?)) a) : (Code.region id l.toArray true).wp P Q a w := by
  simp only [schedOkZ, schedOk, Bool.and_eq_true, decide_eq_true_eq, List.all_eq_true] at hB
  obtain ⟨⟨⟨⟨⟨⟨h1, h2⟩, h3⟩, h4⟩, h5⟩, h6⟩, h7⟩ := hB
  refine wp_region_noPanic (wp_region_any hm ?_)
  rw [← h2] at h5 ⊢
  refine any_of_Z (S := S) (z := z) _ _ _ _ ?_
  exact head_anyZ h1 ts (fun t ht => by simpa using h4 t ht) (.inl h6) hs _ a _ h5 (fun t ht => by simpa using h3 t ht) h7 hS (by simpa using h)
end
section
variable {P : Program} {B : Nat}
theorem wp_region_laterZ {id : Nat} {Q : Exit → Act → World → Prop} {a : Act} {w : World} {l : List Oper} (hs ts : List Nat) (z : Nat) (hm : P.follows .mixedOrders = true) (hB : schedOkZ l.toArray hs ts z = true)
    (h : wpQuiet P l.toArray (fun w' => ∃ u : LaterB B w, w' = u.world) (fun a' => wpTailZ P l.toArray (fun w' => ∃ u : LaterB B w, w' = u.world) Q (ts.filterMap (l[·]?)) a' w.drew) (hs.filterMap (l[·]?)) a) : (Code.region id l.toArray true).wp P Q a w :=
  wp_region_schedZ hs ts z _ hm hB ⟨⟨_, (Below.refl B w).drew⟩, rfl⟩ h
theorem tailZ_cons {ops : Array Oper} {S : World → Prop} {Q : Exit → Act → World → Prop} {o o2 : Oper} {r : List Oper} {a : Act} {w : World} (h : wpList P ops (tailQ S Q (wpTailZ P ops S Q (o2 :: r))) [o] a w) : wpTailZ P ops S Q (o :: o2 :: r) a w := h
theorem tailZ_last {ops : Array Oper} {S : World → Prop} {Q : Exit → Act → World → Prop} {o : Oper} {a : Act} {w : World} (h : wpList P ops (tailQ (fun _ => True) Q (Q .normal)) [o] a w) : wpTailZ P ops S Q [o] a w := h
theorem tailZ_end {Q : Exit → Act → World → Prop} {K : Act → World → Prop} {a : Act} {w : World} (hk : K a w) : tailQ (fun _ => True) Q K .normal a w := ⟨trivial, hk⟩
end
end Go.Proofs.YtidboecjllaofaaGreat

/- A region that draws its order, by a schedule whose last operations come behind all others: what the heads read need not stand behind them. -/
namespace Go.Proofs.YtidboecjllaofaaGreat
open Go.RowKit

section
variable {P : Program} {ops : Array Oper} {md : Region.Mode} {S : World → Prop} {Q : Exit → Act → World → Prop} {Z : List Nat}

/-- Whatever order is picked; S holds behind each operation but the last ones, Z. -/
def wpAnyY (P : Program) (md : Region.Mode) (ops : Array Oper) (Q : Exit → Act → World → Prop) (S : World → Prop) (Z : List Nat) : Nat → Array Bool → Act → World → Prop
  | 0, listed, a, w => Region.ready md ops listed = [] ∧ Q .normal a w
  | m + 1, listed, a, w => (Region.ready md ops listed = [] → Q .normal a w) ∧
      ∀ i ∈ Region.ready md ops listed, wpOp P ops Q i (fun a' w' => (i ∈ Z ∨ (S w → S w')) ∧ wpAnyY P md ops Q S Z m (listed.setIfInBounds i true) a' w') a w

theorem any_of_Y : ∀ (m : Nat) (listed : Array Bool) (a : Act) (w : World), wpAnyY P md ops Q S Z m listed a w → wpAny P md ops Q m listed a w
  | 0, _, _, _, h => h
  | m + 1, _, _, _, h => ⟨h.1, fun i hi => wpOp_mono (fun a' w' hh => any_of_Y m _ a' w' hh.2) (h.2 i hi)⟩

theorem anyY_first {i : Nat} {oi : Oper} {v : Value} (hi : ops[i]? = some oi) (hsel : ∀ (j : Nat) (o : Oper) cs b, ops[j]? = some o → o.op ≠ .select cs b)
    (hQ : ∀ c a w, Q (.panic c) (a.put oi.dst v) w → Q (.panic c) a w) (bk : List Nat) (hbk : ∀ k ∈ bk, ∃ ok, ops[k]? = some ok ∧ ∃ e ∈ ok.after, Region.binds md e = true ∧ (e.on = i ∨ e.on ∈ bk)) (hz : ∀ z ∈ Z, z ∈ bk) :
    ∀ (m : Nat) (listed : Array Bool) (a : Act) (w : World), (∀ k ∈ bk, listed.getD k true = false) →
      (∀ j oj, ops[j]? = some oj → j ≠ i → listed.getD j true = false → (∀ e ∈ oj.after, Region.binds md e = true → e.on ≠ i) → oi.apart ops oj = true) →
      i ∈ Region.ready md ops listed → YieldsIf P ops S oi v a → S w →
      wpAnyY P md ops Q S Z m (listed.setIfInBounds i true) (a.put oi.dst v) w → wpAnyY P md ops Q S Z (m + 1) listed a w := by
  intro m
  induction m with
  | zero =>
    intro listed a w hun _ hr hy hS H
    refine ⟨fun h => (by rw [h] at hr; cases hr), fun j hj => ?_⟩
    by_cases hji : j = i
    · subst hji; exact hy.wpOp hi hS ⟨.inr (fun _ => hS), H⟩
    · have := ready_mono hj hji
      rw [H.1] at this
      cases this
  | succ m ih =>
    intro listed a w hun hfree hr hy hS H
    refine ⟨fun h => (by rw [h] at hr; cases hr), fun j hj => ?_⟩
    by_cases hji : j = i
    · subst hji; exact hy.wpOp hi hS ⟨.inr (fun _ => hS), H⟩
    · have h1 := H.2 j (ready_mono hj hji)
      obtain ⟨hjun, oj, hoj, hall⟩ := mem_ready.1 hj
      have hnot : ∀ e ∈ oj.after, Region.binds md e = true → e.on ≠ i := fun e he hb heq => by
        have h1 := hall e he hb
        have h0 := (mem_ready.1 hr).1
        rw [heq] at h1
        rcases Nat.lt_or_ge i listed.size with h' | h'
        · simp [h'] at h0 h1; rw [h0] at h1; cases h1
        · simp [Array.getElem?_eq_none h'] at h1
      have hjb : j ∉ bk := by
        intro hjB
        obtain ⟨ok, hok, e, he, hb, hon⟩ := hbk j hjB
        rw [hok] at hoj
        cases hoj
        rcases hon with hon | hon
        · exact hnot e he hb hon
        · have h1 := hall e he hb
          have h0 := hun _ hon
          generalize e.on = q at h0 h1
          rcases Nat.lt_or_ge q listed.size with h' | h'
          · simp [h'] at h0 h1; rw [h0] at h1; cases h1
          · simp [Array.getElem?_eq_none h'] at h1
      have hjz : j ∉ Z := fun h => hjb (hz j h)
      have hun' : ∀ k ∈ bk, (listed.setIfInBounds j true).getD k true = false := fun k hk => by
        rw [getD_set_ne true (i := j) (j := k) (by rintro rfl; exact hjb hk)]; exact hun k hk
      have h2 := wpOp_putIf hoj (hfree j oj hoj hji hjun hnot) (fun cs b => hsel i oi cs b hi) (fun cs b => hsel j oj cs b hoj) hQ hy h1
      have hfree' : ∀ k ok, ops[k]? = some ok → k ≠ i → (listed.setIfInBounds j true).getD k true = false →
          (∀ e ∈ ok.after, Region.binds md e = true → e.on ≠ i) → oi.apart ops ok = true := fun k ok hk hki hun hno => by
        refine hfree k ok hk hki ?_ hno
        by_cases hjk : j = k
        · subst hjk; exact hjun
        · rw [getD_set_ne true hjk] at hun; exact hun
      refine wpOp_mono (fun a' w' h3 => ?_) h2
      rcases h3.2.1 with hq | hSw
      · exact absurd hq hjz
      · replace hSw := hSw hS
        refine ⟨.inr (fun _ => hSw), ih (listed.setIfInBounds j true) a' w' hun' hfree' (ready_mono hr (Ne.symm hji)) h3.1 hSw ?_⟩
        rw [Array.setIfInBounds_comm _ _ hji]
        exact h3.2.2

/-- An operation that reads no memory can come behind anything. -/
def pureOp (o : Oper) : Bool := match o.op with | .move _ => true | _ => false
theorem yields_pure {o : Oper} {v : Value} {a : Act} {w : World} (hp : pureOp o = true) (hS : S w) (h : YieldsIf P ops S o v a) : YieldsIf P ops (fun _ => True) o v a := by
  rcases h with ⟨h1, h2⟩ | h
  · refine .inl ⟨h1, fun w' _ => ?_⟩
    have h3 := h2 w hS
    unfold pureOp at hp
    split at hp
    · rename_i x hx
      simp only [execOp, hx] at h3 ⊢
      first | (simp at h3 ⊢; exact h3) | (simpa using h3)
    · cases hp
  · exact .inr h
theorem anyY_pure {i : Nat} {oi : Oper} {v : Value} (hi : ops[i]? = some oi) (hsel : ∀ (j : Nat) (o : Oper) cs b, ops[j]? = some o → o.op ≠ .select cs b)
    (hQ : ∀ c a w, Q (.panic c) (a.put oi.dst v) w → Q (.panic c) a w) :
    ∀ (m : Nat) (listed : Array Bool) (a : Act) (w : World),
      (∀ j oj, ops[j]? = some oj → j ≠ i → listed.getD j true = false → (∀ e ∈ oj.after, Region.binds md e = true → e.on ≠ i) → oi.apart ops oj = true) →
      i ∈ Region.ready md ops listed → YieldsIf P ops (fun _ => True) oi v a →
      wpAnyY P md ops Q S Z m (listed.setIfInBounds i true) (a.put oi.dst v) w → wpAnyY P md ops Q S Z (m + 1) listed a w := by
  intro m
  induction m with
  | zero =>
    intro listed a w hfree hr hy H
    refine ⟨fun h => (by rw [h] at hr; cases hr), fun j hj => ?_⟩
    by_cases hji : j = i
    · subst hji; exact hy.wpOp hi trivial ⟨.inr id, H⟩
    · have := ready_mono hj hji
      rw [H.1] at this
      cases this
  | succ m ih =>
    intro listed a w hfree hr hy H
    refine ⟨fun h => (by rw [h] at hr; cases hr), fun j hj => ?_⟩
    by_cases hji : j = i
    · subst hji; exact hy.wpOp hi trivial ⟨.inr id, H⟩
    · have h1 := H.2 j (ready_mono hj hji)
      obtain ⟨hjun, oj, hoj, hall⟩ := mem_ready.1 hj
      have hnot : ∀ e ∈ oj.after, Region.binds md e = true → e.on ≠ i := fun e he hb heq => by
        have h1 := hall e he hb
        have h0 := (mem_ready.1 hr).1
        rw [heq] at h1
        rcases Nat.lt_or_ge i listed.size with h' | h'
        · simp [h'] at h0 h1; rw [h0] at h1; cases h1
        · simp [Array.getElem?_eq_none h'] at h1
      have h2 := wpOp_putIf hoj (hfree j oj hoj hji hjun hnot) (fun cs b => hsel i oi cs b hi) (fun cs b => hsel j oj cs b hoj) hQ hy h1
      have hfree' : ∀ k ok, ops[k]? = some ok → k ≠ i → (listed.setIfInBounds j true).getD k true = false →
          (∀ e ∈ ok.after, Region.binds md e = true → e.on ≠ i) → oi.apart ops ok = true := fun k ok hk hki hun hno => by
        refine hfree k ok hk hki ?_ hno
        by_cases hjk : j = k
        · subst hjk; exact hjun
        · rw [getD_set_ne true hjk] at hun; exact hun
      refine wpOp_mono (fun a' w' h3 => ?_) h2
      refine ⟨h3.2.1, ih (listed.setIfInBounds j true) a' w' hfree' (ready_mono hr (Ne.symm hji)) h3.1 ?_⟩
      rw [Array.setIfInBounds_comm _ _ hji]
      exact h3.2.2

/-- What the last operations are walked towards, and those ahead of them, behind which S holds. -/
def wpEnds (P : Program) (ops : Array Oper) (Q : Exit → Act → World → Prop) : List Oper → Act → World → Prop
  | [], a, w => Q .normal a w
  | o :: r, a, w => wpList P ops (tailQ (fun _ => True) Q (wpEnds P ops Q r)) [o] a w
def wpTailY (P : Program) (ops : Array Oper) (S : World → Prop) (Q : Exit → Act → World → Prop) (e : List Oper) : List Oper → Act → World → Prop
  | [], a, w => wpEnds P ops Q e a w
  | o :: r, a, w => wpList P ops (tailQ S Q (wpTailY P ops S Q e r)) [o] a w

theorem ends_anyY : ∀ (zs : List Nat) (listed : Array Bool) (a : Act) (w : World), tailB md ops zs listed = true → (∀ t ∈ zs, t < ops.size) → (∀ t ∈ zs, t ∈ Z) →
    wpEnds P ops Q (zs.filterMap (ops[·]?)) a w → wpAnyY P md ops (NoPanic Q) S Z zs.length listed a w
  | [], listed, a, w, hB, _, _, h => by
    simp only [tailB, decide_eq_true_eq] at hB
    exact ⟨hB, h⟩
  | t :: ts, listed, a, w, hB, hlt, hl, h => by
    simp only [tailB, Bool.and_eq_true, decide_eq_true_eq] at hB
    have ht := hlt t (by simp)
    have ho : ops[t]? = some ops[t] := by simp [ht]
    rw [List.filterMap_cons_some ho] at h
    refine ⟨fun h0 => absurd (hB.1 ▸ h0) (by simp), fun i hi => ?_⟩
    have hit : i = t := by rw [hB.1] at hi; simpa using hi
    subst hit
    refine wpOp_mono (fun a' w' hh => ⟨.inl (hl i (by simp)), ?_⟩) (wpOp_of_tail (S := fun _ => True) ho h)
    exact ends_anyY ts _ a' w' hB.2 (fun x hx => hlt x (by simp [hx])) (fun x hx => hl x (by simp [hx])) hh.2

theorem tail_anyY (zs : List Nat) (hzl : ∀ t ∈ zs, t < ops.size) (hz : ∀ t ∈ zs, t ∈ Z) : ∀ (ts : List Nat) (listed : Array Bool) (a : Act) (w : World), tailB md ops (ts ++ zs) listed = true → (∀ t ∈ ts, t < ops.size) →
    wpTailY P ops S Q (zs.filterMap (ops[·]?)) (ts.filterMap (ops[·]?)) a w → wpAnyY P md ops (NoPanic Q) S Z (ts ++ zs).length listed a w
  | [], listed, a, w, hB, _, h => ends_anyY zs listed a w hB hzl hz h
  | t :: ts, listed, a, w, hB, hlt, h => by
    simp only [List.cons_append, tailB, Bool.and_eq_true, decide_eq_true_eq] at hB
    have ht := hlt t (by simp)
    have ho : ops[t]? = some ops[t] := by simp [ht]
    rw [List.filterMap_cons_some ho] at h
    refine ⟨fun h0 => absurd (hB.1 ▸ h0) (by simp), fun i hi => ?_⟩
    have hit : i = t := by rw [hB.1] at hi; simpa using hi
    subst hit
    refine wpOp_mono (fun a' w' hh => ⟨.inr (fun _ => hh.1), ?_⟩) (wpOp_of_tail ho h)
    exact tail_anyY zs hzl hz ts _ a' w' hB.2 (fun x hx => hlt x (by simp [hx])) hh.2

/-- The operations of a tail that wait for x, or for one that does. -/
def blocked (md : Region.Mode) (ops : Array Oper) (x : Nat) : List Nat → List Nat → List Nat
  | acc, [] => acc
  | acc, t :: ts => blocked md ops x (if (x :: acc).any (fun k => waitsB md ops t k) then t :: acc else acc) ts
theorem blocked_spec (x : Nat) : ∀ (l acc : List Nat), (∀ k ∈ acc, ∃ ok, ops[k]? = some ok ∧ ∃ e ∈ ok.after, Region.binds md e = true ∧ (e.on = x ∨ e.on ∈ acc)) →
    (∀ k ∈ blocked md ops x acc l, ∃ ok, ops[k]? = some ok ∧ ∃ e ∈ ok.after, Region.binds md e = true ∧ (e.on = x ∨ e.on ∈ blocked md ops x acc l)) ∧ (∀ k ∈ blocked md ops x acc l, k ∈ acc ∨ k ∈ l)
  | [], acc, h => ⟨h, fun k hk => .inl hk⟩
  | t :: l, acc, h => by
    simp only [blocked]
    split
    · rename_i ht
      obtain ⟨h1, h2⟩ := blocked_spec x l (t :: acc) (fun k hk => by
        rcases List.mem_cons.1 hk with rfl | hk
        · rw [List.any_eq_true] at ht
          obtain ⟨q, hq, hw⟩ := ht
          obtain ⟨oz, hoz, e, he, hb, hon⟩ := waitsB_spec hw
          refine ⟨oz, hoz, e, he, hb, ?_⟩
          rcases List.mem_cons.1 hq with rfl | hq
          · exact .inl hon
          · exact .inr (by rw [hon]; simp [hq])
        · obtain ⟨ok, hok, e, he, hb, hon⟩ := h k hk
          exact ⟨ok, hok, e, he, hb, hon.imp id (fun h => by simp [h])⟩)
      refine ⟨h1, fun k hk => ?_⟩
      rcases h2 k hk with h3 | h3
      · rcases List.mem_cons.1 h3 with rfl | h3
        · exact .inr (by simp)
        · exact .inl h3
      · exact .inr (by simp [h3])
    · obtain ⟨h1, h2⟩ := blocked_spec x l acc h
      exact ⟨h1, fun k hk => (h2 k hk).imp id (fun h => by simp [h])⟩

/-- Each head holds the last operations up. -/
def headsY (md : Region.Mode) (ops : Array Oper) (ts zs : List Nat) : List Nat → Bool
  | [] => true
  | x :: hs => (zs.all (fun z => (blocked md ops x [] (hs ++ (ts ++ zs))).contains z) || (match ops[x]? with | some o => pureOp o | none => false)) && !(hs ++ (ts ++ zs)).contains x && headsY md ops ts zs hs

theorem head_anyY (hsel : Region.noSelect ops = true) (ts zs : List Nat) (hlt : ∀ t ∈ ts, t < ops.size) (hzl : ∀ t ∈ zs, t < ops.size) : ∀ (hs : List Nat) (listed : Array Bool) (a : Act) (w : World), schedB md ops (ts ++ zs) hs listed = true → (∀ t ∈ hs, t < ops.size) → headsY md ops ts zs hs = true → (∀ t ∈ hs ++ (ts ++ zs), listed.getD t true = false) → S w →
    wpQuiet P ops S (fun a' => wpTailY P ops S Q (zs.filterMap (ops[·]?)) (ts.filterMap (ops[·]?)) a' w) (hs.filterMap (ops[·]?)) a → wpAnyY P md ops (NoPanic Q) S zs (hs.length + (ts ++ zs).length) listed a w
  | [], listed, a, w, hB, _, _, _, hS, h => by
    rw [List.length_nil, Nat.zero_add]
    exact tail_anyY zs hzl (fun _ h => h) ts listed a w (by simpa only [schedB] using hB) hlt h
  | x :: hs, listed, a, w, hB, hlh, hwt, hun, hS, h => by
    simp only [schedB, Bool.and_eq_true] at hB
    simp only [headsY, Bool.and_eq_true, Bool.or_eq_true, List.all_eq_true] at hwt
    obtain ⟨⟨hw1, hw2⟩, hw3⟩ := hwt
    have hdis : x ∉ hs ++ (ts ++ zs) := fun hm => by
      rw [List.contains_iff_mem.2 hm] at hw2; cases hw2
    have hx := hlh x (by simp)
    have ho : ops[x]? = some ops[x] := by simp [hx]
    rw [List.filterMap_cons_some ho] at h
    rw [ho] at hB
    have hst : qOp P ops S x (wpQuiet P ops S (fun a' => wpTailY P ops S Q (zs.filterMap (ops[·]?)) (ts.filterMap (ops[·]?)) a' w) (hs.filterMap (ops[·]?))) a := by unfold qOp; simp only [ho]; exact h
    obtain ⟨v, hy, hK⟩ := yieldsIn_of_qOp ho hst
    rw [List.length_cons, show hs.length + 1 + (ts ++ zs).length = (hs.length + (ts ++ zs).length) + 1 by omega]
    obtain ⟨hb1, hb2⟩ := blocked_spec (md := md) (ops := ops) x (hs ++ (ts ++ zs)) [] (by simp)
    have hrest := head_anyY hsel ts zs hlt hzl hs _ _ w hB.2 (fun y hy => hlh y (by simp [hy])) hw3
        (fun t ht => by rw [getD_set_ne true (i := x) (j := t) (by rintro rfl; exact hdis ht)]; exact hun t (List.mem_cons_of_mem _ ht)) hS hK
    rcases hw1 with hw1 | hw1
    · exact anyY_first ho (Region.noSelect_spec hsel) (fun _ _ _ h => h.elim) (blocked md ops x [] (hs ++ (ts ++ zs))) hb1 (fun z hz => List.contains_iff_mem.1 (hw1 z hz)) _ _ _ _ (fun k hk => hun k (List.mem_cons_of_mem _ ((hb2 k hk).elim (fun h => by simp at h) id))) (Region.free_spec ho hB.1.1.2) (by simpa using hB.1.1.1) (yieldsIf_of_in hB.1.2 hy) hS hrest
    · rw [ho] at hw1
      exact anyY_pure ho (Region.noSelect_spec hsel) (fun _ _ _ h => h.elim) _ _ _ _ (Region.free_spec ho hB.1.1.2) (by simpa using hB.1.1.1) (yields_pure hw1 hS (yieldsIf_of_in hB.1.2 hy)) hrest

def schedOkY (ops : Array Oper) (hs ts zs : List Nat) : Bool :=
  schedOk ops hs (ts ++ zs) && headsY .any ops ts zs hs

theorem wp_region_schedY {id : Nat} {a : Act} {w : World} {l : List Oper} (hs ts zs : List Nat) (S : World → Prop) (hm : P.follows .mixedOrders = true) (hB : schedOkY l.toArray hs ts zs = true) (hS : S w.drew)
    (h : wpQuiet P l.toArray S (fun a' => wpTailY P l.toArray S Q (zs.filterMap (l[·]?)) (ts.filterMap (l[·]?)) a' w.drew) (hs.filterMap (l[·]?)) a) : (Code.region id l.toArray true).wp P Q a w := by
  simp only [schedOkY, schedOk, Bool.and_eq_true, decide_eq_true_eq, List.all_eq_true] at hB
  obtain ⟨⟨⟨⟨⟨h1, h2⟩, h3⟩, h4⟩, h5⟩, h7⟩ := hB
  refine wp_region_noPanic (wp_region_any hm ?_)
  have h4' : ∀ t ∈ ts ++ zs, t < l.toArray.size := fun t ht => by simpa using h4 t ht
  have hrep : ∀ t ∈ hs ++ (ts ++ zs), (Array.replicate l.toArray.size false).getD t true = false := fun t ht => by
    have : t < l.toArray.size := by
      rcases List.mem_append.1 ht with h | h
      · simpa using h3 t h
      · exact h4' t h
    simp at this
    simp [this]
  rw [← h2] at h5 ⊢
  refine any_of_Y (S := S) (Z := zs) _ _ _ _ ?_
  rw [← h2] at hrep
  exact head_anyY h1 ts zs (fun t ht => h4' t (by simp [ht])) (fun t ht => h4' t (by simp [ht])) hs _ a _ h5 (fun t ht => by simpa using h3 t ht) h7 hrep hS (by simpa using h)
end
section
variable {P : Program} {B : Nat}
theorem wp_region_laterY {id : Nat} {Q : Exit → Act → World → Prop} {a : Act} {w : World} {l : List Oper} (hs ts zs : List Nat) (hm : P.follows .mixedOrders = true) (hB : schedOkY l.toArray hs ts zs = true)
    (h : wpQuiet P l.toArray (fun w' => ∃ u : LaterB B w, w' = u.world) (fun a' => wpTailY P l.toArray (fun w' => ∃ u : LaterB B w, w' = u.world) Q (zs.filterMap (l[·]?)) (ts.filterMap (l[·]?)) a' w.drew) (hs.filterMap (l[·]?)) a) : (Code.region id l.toArray true).wp P Q a w :=
  wp_region_schedY hs ts zs _ hm hB ⟨⟨_, (Below.refl B w).drew⟩, rfl⟩ h
theorem wp_region_laterXY {b0 : Nat} {id : Nat} {Q : Exit → Act → World → Prop} {a : Act} {w : World} {l : List Oper} (hs ts zs : List Nat) (hm : P.follows .mixedOrders = true) (hB : schedOkY l.toArray hs ts zs = true)
    (h : wpQuiet P l.toArray (fun w' => ∃ u : LaterX B b0 w, w' = u.world) (fun a' => wpTailY P l.toArray (fun w' => ∃ u : LaterX B b0 w, w' = u.world) Q (zs.filterMap (l[·]?)) (ts.filterMap (l[·]?)) a' w.drew) (hs.filterMap (l[·]?)) a) : (Code.region id l.toArray true).wp P Q a w :=
  wp_region_schedY hs ts zs _ hm hB ⟨⟨_, SameX.drew (fun _ _ _ _ => rfl)⟩, rfl⟩ h
theorem tailY_cons {ops : Array Oper} {S : World → Prop} {Q : Exit → Act → World → Prop} {o : Oper} {r e : List Oper} {a : Act} {w : World} (h : wpList P ops (tailQ S Q (wpTailY P ops S Q e r)) [o] a w) : wpTailY P ops S Q e (o :: r) a w := h
theorem tailY_ends {ops : Array Oper} {S : World → Prop} {Q : Exit → Act → World → Prop} {e : List Oper} {a : Act} {w : World} (h : wpEnds P ops Q e a w) : wpTailY P ops S Q e [] a w := h
theorem ends_cons {ops : Array Oper} {Q : Exit → Act → World → Prop} {o : Oper} {r : List Oper} {a : Act} {w : World} (h : wpList P ops (tailQ (fun _ => True) Q (wpEnds P ops Q r)) [o] a w) : wpEnds P ops Q (o :: r) a w := h
theorem ends_nil {ops : Array Oper} {Q : Exit → Act → World → Prop} {a : Act} {w : World} (h : Q .normal a w) : wpEnds P ops Q [] a w := h
end
end Go.Proofs.YtidboecjllaofaaGreat
