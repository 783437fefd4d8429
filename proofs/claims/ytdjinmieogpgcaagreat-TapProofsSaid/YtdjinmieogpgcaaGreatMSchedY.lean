import Derived.Test.YtdjinmieogpgcaaGreatMTMapG
/- A region that draws its order, by a schedule whose last operations come behind all others: what the heads read need not stand behind them. -/
namespace Go.Proofs.YtdjinmieogpgcaaGreat
open Go.RowKit
section
variable {P : Program} {ops : Array Oper} {md : Region.Mode} {S : World → Prop} {Q : Exit → Act → World → Prop} {Z : List Nat}
def wpAnyY (P : Program) (md : Region.Mode) (ops : Array Oper) (Q : Exit → Act → World → Prop) (S : World → Prop) (Z : List Nat) : Nat → Array Bool → Act → World → Prop
 | 0, listed, a, w => Region.ready md ops listed = [] ∧ Q .normal a w
 | m + 1, listed, a, w => (Region.ready md ops listed = [] → Q .normal a w) ∧
     ∀ i ∈ Region.ready md ops listed, wpOp P ops Q i (fun a' w' => (i ∈ Z ∨ (S w → S w')) ∧ wpAnyY P md ops Q S Z m (listed.setIfInBounds i true) a' w') a w
theorem any_of_Y : ∀ (m : Nat) (listed : Array Bool) (a : Act) (w : World), wpAnyY P md ops Q S Z m listed a w → wpAny P md ops Q m listed a w
 | 0, _, _, _, h => h
 | m + 1, _, _, _, h => ⟨h.1, fun i hi => wpOp_mono (fun a' w' hh => any_of_Y m _ a' w' hh.2) (h.2 i hi)⟩
theorem anyY_first {i : Nat} {oi : Oper} {v : Value} (hi : ops[i]? = some oi) (hsel : ∀ (j : Nat) (o : Oper) cs b, ops[j]? = some o → o.op ≠ .select cs b)
    (hQ : ∀ c a w, Q (.panic c) (a.put oi.dst v) w → Q (.panic c) a w) (bk : List Nat) (hbk : ∀ k ∈ bk, ∃ ok, ops[k]? = some ok ∧ ∃ e ∈ ok.after, Region.binds md e = true ∧ (e.on = i ∨ e.on ∈ bk)) (hz : ∀ z ∈ Z, z ∈ bk) :
    ∀ (m : Nat) (listed : Array Bool) (a : Act) (w : World), (∀ k ∈ bk, listed.getD k true = false) →
     (∀ j oj, ops[j]? = some oj → j ≠ i → listed.getD j true = false → (∀ e ∈ oj.after, Region.binds md e = true → e.on ≠ i) → oi.apart ops oj = true) →
     i ∈ Region.ready md ops listed → YieldsIf P ops S oi v a → S w →
     wpAnyY P md ops Q S Z m (listed.setIfInBounds i true) (a.put oi.dst v) w → wpAnyY P md ops Q S Z (m + 1) listed a w := by
 intro m
 induction m with
 | zero =>
  intro listed a w hun _ hr hy hS H
  refine ⟨fun h => (by rw [h] at hr; cases hr), fun j hj => ?_⟩
  by_cases hji : j = i
  ·subst hji; exact hy.wpOp hi hS ⟨.inr (fun _ => hS), H⟩
  ·have := ready_mono hj hji
   rw [H.1] at this
   cases this
 | succ m ih =>
  intro listed a w hun hfree hr hy hS H
  refine ⟨fun h => (by rw [h] at hr; cases hr), fun j hj => ?_⟩
  by_cases hji : j = i
  ·subst hji; exact hy.wpOp hi hS ⟨.inr (fun _ => hS), H⟩
  ·have h1 := H.2 j (ready_mono hj hji)
   obtain ⟨hjun, oj, hoj, hall⟩ := mem_ready.1 hj
   have hnot : ∀ e ∈ oj.after, Region.binds md e = true → e.on ≠ i := fun e he hb heq => by
    have h1 := hall e he hb
    have h0 := (mem_ready.1 hr).1
    rw [heq] at h1
    rcases Nat.lt_or_ge i listed.size with h' | h'
    ·simp [h'] at h0 h1; rw [h0] at h1; cases h1
    ·simp [Array.getElem?_eq_none h'] at h1
   have hjb : j ∉ bk := by
    intro hjB
    obtain ⟨ok, hok, e, he, hb, hon⟩ := hbk j hjB
    rw [hok] at hoj
    cases hoj
    rcases hon with hon | hon
    ·exact hnot e he hb hon
    ·have h1 := hall e he hb
     have h0 := hun _ hon
     generalize e.on = q at h0 h1
     rcases Nat.lt_or_ge q listed.size with h' | h'
     ·simp [h'] at h0 h1; rw [h0] at h1; cases h1
     ·simp [Array.getElem?_eq_none h'] at h1
   have hjz : j ∉ Z := fun h => hjb (hz j h)
   have hun' : ∀ k ∈ bk, (listed.setIfInBounds j true).getD k true = false := fun k hk => by
    rw [getD_set_ne true (i := j) (j := k) (by rintro rfl; exact hjb hk)]; exact hun k hk
   have h2 := wpOp_putIf hoj (hfree j oj hoj hji hjun hnot) (fun cs b => hsel i oi cs b hi) (fun cs b => hsel j oj cs b hoj) hQ hy h1
   have hfree' : ∀ k ok, ops[k]? = some ok → k ≠ i → (listed.setIfInBounds j true).getD k true = false →
       (∀ e ∈ ok.after, Region.binds md e = true → e.on ≠ i) → oi.apart ops ok = true := fun k ok hk hki hun hno => by
    refine hfree k ok hk hki ?_ hno
    by_cases hjk : j = k
    ·subst hjk; exact hjun
    ·rw [getD_set_ne true hjk] at hun; exact hun
   refine wpOp_mono (fun a' w' h3 => ?_) h2
   rcases h3.2.1 with hq | hSw
   ·exact absurd hq hjz
   ·replace hSw := hSw hS
    refine ⟨.inr (fun _ => hSw), ih (listed.setIfInBounds j true) a' w' hun' hfree' (ready_mono hr (Ne.symm hji)) h3.1 hSw ?_⟩
    rw [Array.setIfInBounds_comm _ _ hji]
    exact h3.2.2
def pureOp (o : Oper) : Bool := match o.op with | .move _ => true | _ => false
theorem yields_pure {o : Oper} {v : Value} {a : Act} {w : World} (hp : pureOp o = true) (hS : S w) (h : YieldsIf P ops S o v a) : YieldsIf P ops (fun _ => True) o v a := by
 rcases h with ⟨h1, h2⟩ | h
 ·refine .inl ⟨h1, fun w' _ => ?_⟩
  have h3 := h2 w hS
  unfold pureOp at hp
  split at hp
  ·rename_i x hx
   simp only [execOp, hx] at h3 ⊢
   first | (simp at h3 ⊢; exact h3) | (simpa using h3)
  ·cases hp
 ·exact .inr h
theorem anyY_pure {i : Nat} {oi : Oper} {v : Value} (hi : ops[i]? = some oi) (hsel : ∀ (j : Nat) (o : Oper) cs b, ops[j]? = some o → o.op ≠ .select cs b)
    (hQ : ∀ c a w, Q (.panic c) (a.put oi.dst v) w → Q (.panic c) a w) :
    ∀ (m : Nat) (listed : Array Bool) (a : Act) (w : World),
     (∀ j oj, ops[j]? = some oj → j ≠ i → listed.getD j true = false → (∀ e ∈ oj.after, Region.binds md e = true → e.on ≠ i) → oi.apart ops oj = true) →
     i ∈ Region.ready md ops listed → YieldsIf P ops (fun _ => True) oi v a →
     wpAnyY P md ops Q S Z m (listed.setIfInBounds i true) (a.put oi.dst v) w → wpAnyY P md ops Q S Z (m + 1) listed a w := by
 intro m
 induction m with
 | zero =>
  intro listed a w hfree hr hy H
  refine ⟨fun h => (by rw [h] at hr; cases hr), fun j hj => ?_⟩
  by_cases hji : j = i
  ·subst hji; exact hy.wpOp hi trivial ⟨.inr id, H⟩
  ·have := ready_mono hj hji
   rw [H.1] at this
   cases this
 | succ m ih =>
  intro listed a w hfree hr hy H
  refine ⟨fun h => (by rw [h] at hr; cases hr), fun j hj => ?_⟩
  by_cases hji : j = i
  ·subst hji; exact hy.wpOp hi trivial ⟨.inr id, H⟩
  ·have h1 := H.2 j (ready_mono hj hji)
   obtain ⟨hjun, oj, hoj, hall⟩ := mem_ready.1 hj
   have hnot : ∀ e ∈ oj.after, Region.binds md e = true → e.on ≠ i := fun e he hb heq => by
    have h1 := hall e he hb
    have h0 := (mem_ready.1 hr).1
    rw [heq] at h1
    rcases Nat.lt_or_ge i listed.size with h' | h'
    ·simp [h'] at h0 h1; rw [h0] at h1; cases h1
    ·simp [Array.getElem?_eq_none h'] at h1
   have h2 := wpOp_putIf hoj (hfree j oj hoj hji hjun hnot) (fun cs b => hsel i oi cs b hi) (fun cs b => hsel j oj cs b hoj) hQ hy h1
   have hfree' : ∀ k ok, ops[k]? = some ok → k ≠ i → (listed.setIfInBounds j true).getD k true = false →
       (∀ e ∈ ok.after, Region.binds md e = true → e.on ≠ i) → oi.apart ops ok = true := fun k ok hk hki hun hno => by
    refine hfree k ok hk hki ?_ hno
    by_cases hjk : j = k
    ·subst hjk; exact hjun
    ·rw [getD_set_ne true hjk] at hun; exact hun
   refine wpOp_mono (fun a' w' h3 => ?_) h2
   refine ⟨h3.2.1, ih (listed.setIfInBounds j true) a' w' hfree' (ready_mono hr (Ne.symm hji)) h3.1 ?_⟩
   rw [Array.setIfInBounds_comm _ _ hji]
   exact h3.2.2
def wpEnds (P : Program) (ops : Array Oper) (Q : Exit → Act → World → Prop) : List Oper → Act → World → Prop
 | [], a, w => Q .normal a w
 | o :: r, a, w => wpList P ops (tailQ (fun _ => True) Q (wpEnds P ops Q r)) [o] a w
def wpTailY (P : Program) (ops : Array Oper) (S : World → Prop) (Q : Exit → Act → World → Prop) (e : List Oper) : List Oper → Act → World → Prop
 | [], a, w => wpEnds P ops Q e a w
 | o :: r, a, w => wpList P ops (tailQ S Q (wpTailY P ops S Q e r)) [o] a w
theorem ends_anyY : ∀ (zs : List Nat) (listed : Array Bool) (a : Act) (w : World), tailB md ops zs listed = true → (∀ t ∈ zs, t < ops.size) → (∀ t ∈ zs, t ∈ Z) →
    wpEnds P ops Q (zs.filterMap (ops[·]?)) a w → wpAnyY P md ops (NoPanic Q) S Z zs.length listed a w
 | [], listed, a, w, hB, _, _, h => by
  simp only [tailB, decide_eq_true_eq] at hB
  exact ⟨hB, h⟩
 | t :: ts, listed, a, w, hB, hlt, hl, h => by
  simp only [tailB, Bool.and_eq_true, decide_eq_true_eq] at hB
  have ht := hlt t (by simp)
  have ho : ops[t]? = some ops[t] := by simp [ht]
  rw [List.filterMap_cons_some ho] at h
  refine ⟨fun h0 => absurd (hB.1 ▸ h0) (by simp), fun i hi => ?_⟩
  have hit : i = t := by rw [hB.1] at hi; simpa using hi
  subst hit
  refine wpOp_mono (fun a' w' hh => ⟨.inl (hl i (by simp)), ?_⟩) (wpOp_of_tail (S := fun _ => True) ho h)
  exact ends_anyY ts _ a' w' hB.2 (fun x hx => hlt x (by simp [hx])) (fun x hx => hl x (by simp [hx])) hh.2
theorem tail_anyY (zs : List Nat) (hzl : ∀ t ∈ zs, t < ops.size) (hz : ∀ t ∈ zs, t ∈ Z) : ∀ (ts : List Nat) (listed : Array Bool) (a : Act) (w : World), tailB md ops (ts ++ zs) listed = true → (∀ t ∈ ts, t < ops.size) →
    wpTailY P ops S Q (zs.filterMap (ops[·]?)) (ts.filterMap (ops[·]?)) a w → wpAnyY P md ops (NoPanic Q) S Z (ts ++ zs).length listed a w
 | [], listed, a, w, hB, _, h => ends_anyY zs listed a w hB hzl hz h
 | t :: ts, listed, a, w, hB, hlt, h => by
  simp only [List.cons_append, tailB, Bool.and_eq_true, decide_eq_true_eq] at hB
  have ht := hlt t (by simp)
  have ho : ops[t]? = some ops[t] := by simp [ht]
  rw [List.filterMap_cons_some ho] at h
  refine ⟨fun h0 => absurd (hB.1 ▸ h0) (by simp), fun i hi => ?_⟩
  have hit : i = t := by rw [hB.1] at hi; simpa using hi
  subst hit
  refine wpOp_mono (fun a' w' hh => ⟨.inr (fun _ => hh.1), ?_⟩) (wpOp_of_tail ho h)
  exact tail_anyY zs hzl hz ts _ a' w' hB.2 (fun x hx => hlt x (by simp [hx])) hh.2
def blocked (md : Region.Mode) (ops : Array Oper) (x : Nat) : List Nat → List Nat → List Nat
 | acc, [] => acc
 | acc, t :: ts => blocked md ops x (if (x :: acc).any (fun k => waitsB md ops t k) then t :: acc else acc) ts
theorem blocked_spec (x : Nat) : ∀ (l acc : List Nat), (∀ k ∈ acc, ∃ ok, ops[k]? = some ok ∧ ∃ e ∈ ok.after, Region.binds md e = true ∧ (e.on = x ∨ e.on ∈ acc)) →
    (∀ k ∈ blocked md ops x acc l, ∃ ok, ops[k]? = some ok ∧ ∃ e ∈ ok.after, Region.binds md e = true ∧ (e.on = x ∨ e.on ∈ blocked md ops x acc l)) ∧ (∀ k ∈ blocked md ops x acc l, k ∈ acc ∨ k ∈ l)
 | [], acc, h => ⟨h, fun k hk => .inl hk⟩
 | t :: l, acc, h => by
  simp only [blocked]
  split
  ·rename_i ht
   obtain ⟨h1, h2⟩ := blocked_spec x l (t :: acc) (fun k hk => by
    rcases List.mem_cons.1 hk with rfl | hk
    ·rw [List.any_eq_true] at ht
     obtain ⟨q, hq, hw⟩ := ht
     obtain ⟨oz, hoz, e, he, hb, hon⟩ := waitsB_spec hw
     refine ⟨oz, hoz, e, he, hb, ?_⟩
     rcases List.mem_cons.1 hq with rfl | hq
     ·exact .inl hon
     ·exact .inr (by rw [hon]; simp [hq])
    ·obtain ⟨ok, hok, e, he, hb, hon⟩ := h k hk
     exact ⟨ok, hok, e, he, hb, hon.imp id (fun h => by simp [h])⟩)
   refine ⟨h1, fun k hk => ?_⟩
   rcases h2 k hk with h3 | h3
   ·rcases List.mem_cons.1 h3 with rfl | h3
    ·exact .inr (by simp)
    ·exact .inl h3
   ·exact .inr (by simp [h3])
  ·obtain ⟨h1, h2⟩ := blocked_spec x l acc h
   exact ⟨h1, fun k hk => (h2 k hk).imp id (fun h => by simp [h])⟩
def headsY (md : Region.Mode) (ops : Array Oper) (ts zs : List Nat) : List Nat → Bool
 | [] => true
 | x :: hs => (zs.all (fun z => (blocked md ops x [] (hs ++ (ts ++ zs))).contains z) || (match ops[x]? with | some o => pureOp o | none => false)) && !(hs ++ (ts ++ zs)).contains x && headsY md ops ts zs hs
theorem head_anyY (hsel : Region.noSelect ops = true) (ts zs : List Nat) (hlt : ∀ t ∈ ts, t < ops.size) (hzl : ∀ t ∈ zs, t < ops.size) : ∀ (hs : List Nat) (listed : Array Bool) (a : Act) (w : World), schedB md ops (ts ++ zs) hs listed = true → (∀ t ∈ hs, t < ops.size) → headsY md ops ts zs hs = true → (∀ t ∈ hs ++ (ts ++ zs), listed.getD t true = false) → S w →
    wpQuiet P ops S (fun a' => wpTailY P ops S Q (zs.filterMap (ops[·]?)) (ts.filterMap (ops[·]?)) a' w) (hs.filterMap (ops[·]?)) a → wpAnyY P md ops (NoPanic Q) S zs (hs.length + (ts ++ zs).length) listed a w
 | [], listed, a, w, hB, _, _, _, hS, h => by
  rw [List.length_nil, Nat.zero_add]
  exact tail_anyY zs hzl (fun _ h => h) ts listed a w (by simpa only [schedB] using hB) hlt h
 | x :: hs, listed, a, w, hB, hlh, hwt, hun, hS, h => by
  simp only [schedB, Bool.and_eq_true] at hB
  simp only [headsY, Bool.and_eq_true, Bool.or_eq_true, List.all_eq_true] at hwt
  obtain ⟨⟨hw1, hw2⟩, hw3⟩ := hwt
  have hdis : x ∉ hs ++ (ts ++ zs) := fun hm => by
   rw [List.contains_iff_mem.2 hm] at hw2; cases hw2
  have hx := hlh x (by simp)
  have ho : ops[x]? = some ops[x] := by simp [hx]
  rw [List.filterMap_cons_some ho] at h
  rw [ho] at hB
  have hst : qOp P ops S x (wpQuiet P ops S (fun a' => wpTailY P ops S Q (zs.filterMap (ops[·]?)) (ts.filterMap (ops[·]?)) a' w) (hs.filterMap (ops[·]?))) a := by unfold qOp; simp only [ho]; exact h
  obtain ⟨v, hy, hK⟩ := yieldsIn_of_qOp ho hst
  rw [List.length_cons, show hs.length + 1 + (ts ++ zs).length = (hs.length + (ts ++ zs).length) + 1 by omega]
  obtain ⟨hb1, hb2⟩ := blocked_spec (md := md) (ops := ops) x (hs ++ (ts ++ zs)) [] (by simp)
  have hrest := head_anyY hsel ts zs hlt hzl hs _ _ w hB.2 (fun y hy => hlh y (by simp [hy])) hw3
      (fun t ht => by rw [getD_set_ne true (i := x) (j := t) (by rintro rfl; exact hdis ht)]; exact hun t (List.mem_cons_of_mem _ ht)) hS hK
  rcases hw1 with hw1 | hw1
  ·exact anyY_first ho (Region.noSelect_spec hsel) (fun _ _ _ h => h.elim) (blocked md ops x [] (hs ++ (ts ++ zs))) hb1 (fun z hz => List.contains_iff_mem.1 (hw1 z hz)) _ _ _ _ (fun k hk => hun k (List.mem_cons_of_mem _ ((hb2 k hk).elim (fun h => by simp at h) id))) (Region.free_spec ho hB.1.1.2) (by simpa using hB.1.1.1) (yieldsIf_of_in hB.1.2 hy) hS hrest
  ·rw [ho] at hw1
   exact anyY_pure ho (Region.noSelect_spec hsel) (fun _ _ _ h => h.elim) _ _ _ _ (Region.free_spec ho hB.1.1.2) (by simpa using hB.1.1.1) (yields_pure hw1 hS (yieldsIf_of_in hB.1.2 hy)) hrest
def schedOkY (ops : Array Oper) (hs ts zs : List Nat) : Bool :=
 schedOk ops hs (ts ++ zs) && headsY .any ops ts zs hs
theorem wp_region_schedY {id : Nat} {a : Act} {w : World} {l : List Oper} (hs ts zs : List Nat) (S : World → Prop) (hm : P.follows .mixedOrders = true) (hB : schedOkY l.toArray hs ts zs = true) (hS : S w.drew)
    (h : wpQuiet P l.toArray S (fun a' => wpTailY P l.toArray S Q (zs.filterMap (l[·]?)) (ts.filterMap (l[·]?)) a' w.drew) (hs.filterMap (l[·]?)) a) : (Code.region id l.toArray true).wp P Q a w := by
 simp only [schedOkY, schedOk, Bool.and_eq_true, decide_eq_true_eq, List.all_eq_true] at hB
 obtain ⟨⟨⟨⟨⟨h1, h2⟩, h3⟩, h4⟩, h5⟩, h7⟩ := hB
 refine wp_region_noPanic (wp_region_any hm ?_)
 have h4' : ∀ t ∈ ts ++ zs, t < l.toArray.size := fun t ht => by simpa using h4 t ht
 have hrep : ∀ t ∈ hs ++ (ts ++ zs), (Array.replicate l.toArray.size false).getD t true = false := fun t ht => by
  have : t < l.toArray.size := by
   rcases List.mem_append.1 ht with h | h
   ·simpa using h3 t h
   ·exact h4' t h
  simp at this
  simp [this]
 rw [← h2] at h5 ⊢
 refine any_of_Y (S := S) (Z := zs) _ _ _ _ ?_
 rw [← h2] at hrep
 exact head_anyY h1 ts zs (fun t ht => h4' t (by simp [ht])) (fun t ht => h4' t (by simp [ht])) hs _ a _ h5 (fun t ht => by simpa using h3 t ht) h7 hrep hS (by simpa using h)
end
section
variable {P : Program} {B : Nat}
theorem wp_region_laterY {id : Nat} {Q : Exit → Act → World → Prop} {a : Act} {w : World} {l : List Oper} (hs ts zs : List Nat) (hm : P.follows .mixedOrders = true) (hB : schedOkY l.toArray hs ts zs = true)
    (h : wpQuiet P l.toArray (fun w' => ∃ u : LaterB B w, w' = u.world) (fun a' => wpTailY P l.toArray (fun w' => ∃ u : LaterB B w, w' = u.world) Q (zs.filterMap (l[·]?)) (ts.filterMap (l[·]?)) a' w.drew) (hs.filterMap (l[·]?)) a) : (Code.region id l.toArray true).wp P Q a w :=
 wp_region_schedY hs ts zs _ hm hB ⟨⟨_, (Below.refl B w).drew⟩, rfl⟩ h
theorem wp_region_laterXY {b0 : Nat} {id : Nat} {Q : Exit → Act → World → Prop} {a : Act} {w : World} {l : List Oper} (hs ts zs : List Nat) (hm : P.follows .mixedOrders = true) (hB : schedOkY l.toArray hs ts zs = true)
    (h : wpQuiet P l.toArray (fun w' => ∃ u : LaterX B b0 w, w' = u.world) (fun a' => wpTailY P l.toArray (fun w' => ∃ u : LaterX B b0 w, w' = u.world) Q (zs.filterMap (l[·]?)) (ts.filterMap (l[·]?)) a' w.drew) (hs.filterMap (l[·]?)) a) : (Code.region id l.toArray true).wp P Q a w :=
 wp_region_schedY hs ts zs _ hm hB ⟨⟨_, SameX.drew (fun _ _ _ _ => rfl)⟩, rfl⟩ h
theorem tailY_cons {ops : Array Oper} {S : World → Prop} {Q : Exit → Act → World → Prop} {o : Oper} {r e : List Oper} {a : Act} {w : World} (h : wpList P ops (tailQ S Q (wpTailY P ops S Q e r)) [o] a w) : wpTailY P ops S Q e (o :: r) a w := h
theorem tailY_ends {ops : Array Oper} {S : World → Prop} {Q : Exit → Act → World → Prop} {e : List Oper} {a : Act} {w : World} (h : wpEnds P ops Q e a w) : wpTailY P ops S Q e [] a w := h
theorem ends_cons {ops : Array Oper} {Q : Exit → Act → World → Prop} {o : Oper} {r : List Oper} {a : Act} {w : World} (h : wpList P ops (tailQ (fun _ => True) Q (wpEnds P ops Q r)) [o] a w) : wpEnds P ops Q (o :: r) a w := h
theorem ends_nil {ops : Array Oper} {Q : Exit → Act → World → Prop} {a : Act} {w : World} (h : Q .normal a w) : wpEnds P ops Q [] a w := h
end
end Go.Proofs.YtdjinmieogpgcaaGreat
/- What a contact breaks: the program. -/
namespace Go.Proofs.YtdjinmieogpgcaaGreat
open Go.RowKit Go.Shelf
set_option linter.unusedVariables false
set_option linter.unusedSimpArgs false
set_option maxHeartbeats 4000000 in
set_option maxRecDepth 100000 in
theorem breaks_any (m : Mac) (l : Lim) (s i : Nat) (load : Int) (ab ag : Option Addr) (nb cb ng cg : Nat) (w : World) (hb : BrR w ab nb m.br) (he : ElV m l s load) (he2 : ElV m l (trn s i) load) (hi : i < nb) :
    Calls Tryz.prog 94 #[.agg #[.slice ab nb cb, .int .i64 m.st, .slice ag ng cg, .int .i64 l.volt, .int .i64 l.lo, .int .i64 l.hi, .int .i64 l.circ, .int .i64 l.brk, .int .i64 l.ret], .int .i64 (s : Int), .int .i64 (i : Int), .int .i64 load] w fun e' w' => e' = .returned (.agg #[.int .i64 (brkC m l s i load).1, .int .i64 (brkC m l s i load).2, .int .i64 (brkV m l s i load).1, .int .i64 (brkV m l s i load).2]) ∧ Below w.heap.size w w' := by
 have hlen := hb.len
 have hn6 : nb ≤ 6 := by rw [← hlen]; exact he.hm.n1
 have hs64 := he.s64
 have HTU := Lib.hid (fun (W : World) => (turned_any s i W hs64 (by omega)).mono (fun e w' h => show e = .returned (.int .i64 ((trn s i : Nat) : Int)) ∧ Below W.heap.size W w' from ⟨h.1, h.2 ▸ Below.refl _ _⟩))
 have HOU0 := Lib.hid (fun (W : World) (hbw : Below w.heap.size w W) => output_any m l (trn s i) load ab ag nb cb ng cg W he.hm (hb.below hbw) he.hl he.hd (by rw [← hlen]; exact he2.hs) he2.h0)
 have HCR0 := Lib.hid (fun (W : World) (hbw : Below w.heap.size w W) => currents_any m l s load ab ag nb cb ng cg W he.hm (hb.below hbw) he.hl he.hd (by rw [← hlen]; exact he.hs) he.h0)
 have HV10 := Lib.hid (fun (W : World) (hbw : Below w.heap.size w W) => voltage_any m l i ab ag nb cb ng cg W he.hm (hb.below hbw) he.hl hi)
 have hcb := curT_bd he (k := i) (by rw [hlen]; exact hi)
 have hvb := he2.vo
 obtain ⟨o1, o2⟩ := ovr_bd he.hm he.hl (show i < m.br.length by rw [hlen]; exact hi) hvb
 have hlw := low_props (a := volA m l i * (outT m l (trn s i) load).2 - (outT m l (trn s i) load).1 * 1) (b := 1 * (outT m l (trn s i) load).2) (by rw [Int.one_mul]; exact hvb.1)
 have HMI := Lib.hid (fun (W : World) => t_minus_any (volA m l i) 1 (outT m l (trn s i) load).1 (outT m l (trn s i) load).2 W (by omega) (by unfold VoB at hvb; omega) (by rw [Int.one_mul]; exact hvb.1) (by unfold VoB at hvb; omega))
 obtain ⟨BC, hBC⟩ : ∃ x, x = brkC m l s i load := ⟨_, rfl⟩
 obtain ⟨BV, hBV⟩ : ∃ x, x = brkV m l s i load := ⟨_, rfl⟩
 obtain ⟨BW, hBW⟩ : ∃ x, x = brkW m l (trn s i) i load := ⟨_, rfl⟩
 have hBW2 : BW = low (volA m l i * (outT m l (trn s i) load).2 - (outT m l (trn s i) load).1 * 1) (1 * (outT m l (trn s i) load).2) := hBW
 rw [← hBW2] at HMI hlw
 unfold ovr at o1
 rw [← hBC, ← hBV]
 have HPG := Lib.hid (pcells_get (curT m l s load) i (by rw [curT_len, hlen]; exact hi))
 have HBC : BC = (sz ((curT m l s load).getD i (0, 0)).1, ((curT m l s load).getD i (0, 0)).2) := hBC
 have HBV : BV = (sz BW.1, BW.2) := by rw [hBV, hBW]; rfl
 have HS1 := Lib.hid (fun (W : World) => t_size_any ((curT m l s load).getD i (0, 0)).1 ((curT m l s load).getD i (0, 0)).2 W (by omega) (by omega))
 have HS2 := Lib.hid (fun (W : World) => t_size_any BW.1 BW.2 W (by unfold VoB at hvb; omega) (by unfold VoB at hvb; omega))
 generalize curT m l s load = CT at *
 generalize CT.getD i (0, 0) = CC at *
 generalize outT m l (trn s i) load = OT at *
 have i0 : (0 : Int) ≤ (i : Int) := by omega
 have i1 : (i : Int) < (nb : Int) := by omega
 obtain ⟨vo, lo, hi, ci, br, re⟩ := l
 obtain ⟨st, hst⟩ : ∃ x, x = m.st := ⟨_, rfl⟩
 rw [← hst] at HCR0 HOU0 HV10 ⊢
 generalize volA m ⟨vo, lo, hi, ci, br, re⟩ i = VA at *
 obtain ⟨on, od⟩ := OT
 obtain ⟨cn, cd⟩ := CC
 obtain ⟨wn, wd⟩ := BW
 subst HBC HBV
 simp only at HCR0 HOU0 HV10 HS1 HS2 HMI HPG ⊢
 clear hb he he2 hst hlen hcb hvb o1 o2 hlw hBC hBV hBW hBW2
 go_enter Tryz.func94, Tryz.ntmps94
 go_wp2_with fail
 obtain ⟨w2, hW2⟩ : ∃ w2, w2 = (w.alloc (Obj.cells #[.slice ab nb cb, .int .i64 st, .slice ag ng cg, .int .i64 vo, .int .i64 lo, .int .i64 hi, .int .i64 ci, .int .i64 br, .int .i64 re] 100)).alloc (Obj.cells #[.int .i64 0, .int .i64 0, .int .i64 0, .int .i64 0] 148) := ⟨_, rfl⟩
 rw [← hW2]
 have hb2 : Below w.heap.size w w2 := by rw [hW2]; (first|exact bwg|go_size)
 have k4 : BlkR w2 w.heap.size (.cells #[.slice ab nb cb, .int .i64 st, .slice ag ng cg, .int .i64 vo, .int .i64 lo, .int .i64 hi, .int .i64 ci, .int .i64 br, .int .i64 re] 100) := by
  show w2.heap[w.heap.size]? = _
  rw [hW2, Below.heap_alloc _ _ _ (by simp)]; exact heap_alloc_new _ _
 have k8 : BlkR w2 (w.heap.size + 1) (.cells #[.int .i64 0, .int .i64 0, .int .i64 0, .int .i64 0] 148) := by
  show w2.heap[w.heap.size + 1]? = _
  rw [hW2]
  have := heap_alloc_new (w.alloc (Obj.cells #[.slice ab nb cb, .int .i64 st, .slice ag ng cg, .int .i64 vo, .int .i64 lo, .int .i64 hi, .int .i64 ci, .int .i64 br, .int .i64 re] 100)) (Obj.cells #[.int .i64 0, .int .i64 0, .int .i64 0, .int .i64 0] 148)
  rwa [World.size_alloc] at this
 obtain ⟨X4, hX4⟩ : ∃ X, X = w.heap.size := ⟨_, rfl⟩
 obtain ⟨X8, hX8⟩ : ∃ X, X = w.heap.size + 1 := ⟨_, rfl⟩
 rw [← hX8] at k8
 rw [← hX4] at k4
 simp only [← hX8]
 simp only [← hX4]
 have l48 : X4 ≠ X8 := by omega
 have hw8 : w.heap.size ≤ X8 := by omega
 have HOU := Lib.hid (fun (W : World) (hbw : Below w2.heap.size w2 W) => HOU0.out W (hb2.trans (hbw.mono hb2.size)))
 obtain ⟨c4, c4_1, c4_2, c4_3, c4_4, c4_5, c4_6, c4_7, c4_8, l4⟩ := blkc9 k4
 have K4 := Lib.hid k4
 have K8 := Lib.hid k8
 have HB2 := Lib.hid hb2
 clear hW2 hX4 hX8 k4 k8 hb2
 go_cut [9] from 10 to 15 (fun v9 wx => ∃ X9 : Nat, v9 = .pointer (some ⟨X9, 0, none⟩) ∧ Hid (BlkR wx X9 (.cells #[.int .i64 on, .int .i64 od] 85)) ∧ Hid (w2.heap.size ≤ X9) ∧ Hid (Below w2.heap.size w2 wx))
 case first =>
  have HN := Lib.hid (Below.refl w2.heap.size w2).drew
  refine wp_region_laterT (B := w2.heap.size) (.head 0 (.head 1 (.head 2 (.head 4 (.two 3 (.two 5 (.one 6 (.one 7 .done)) 6 (.one 5 (.one 7 .done))) 6 (.one 3 (.one 5 (.one 7 .done)))))))) (by kernel_rfl) (by kernel_rfl) ?_
  repeat (refine tree_head rfl ?_; (show wpQuiet _ _ _ _ (_ :: _) _; go_big_quiet_step (fail)); refine wpQuiet_nil ?_)
  refine tree_two rfl rfl ?_ ?_
  ·go_wp2_with fail
   refine (HTU.out _).mono ?_
   rintro e11 wx1 ⟨rfl, hbx⟩
   have hzx := hbx.size
   have HN := bwt HN hbx
   clear hbx
   go_wp2_with fail
   refine tailL_mk HN.out ?_
   refine tree_two rfl rfl ?_ ?_
   ·go_wp2_with fail
    refine (HOU.out _ HN.out).mono ?_
    rintro e11 wx2 ⟨rfl, hbx⟩
    have hzx := hbx.size
    have HN := bwt HN hbx
    clear hbx
    go_wp2_with fail
    refine tailL_mk HN.out ?_
    refine tree_one rfl ?_
    go_wp2_with fail
    obtain ⟨X9, hX9, hNX, hx9, l9, hs9, hbx⟩ := xal HN.out (Obj.cells #[.int .i64 0, .int .i64 0] 85)
    try simp only [← hX9]
    generalize (wx2.alloc (Obj.cells #[.int .i64 0, .int .i64 0] 85)) = wx3 at *
    have HX9 := Lib.hid (And.intro hX9 hs9)
    have HN := bwt HN hbx
    clear hbx hX9 hs9
    refine tailL_mk HN.out ?_
    refine tree_one rfl ?_
    obtain ⟨c90, c91, f90, f91⟩ := xcf2 hx9
    go_wp2_with fail
    have hq9 := xst2 HN.out hNX hx9 (.int .i64 on) (.int .i64 od)
    have HN := Lib.hid hq9.1
    have hxo := hx9
    have hx9 := hq9.2
    clear hq9
    refine tailL_mk HN.out ?_
    refine tree_done ?_
    go_wp2_with fail
    go_meet
    case rel => exact ⟨X9, rfl, Lib.hid hx9, Lib.hid hNX, HN⟩
   ·go_wp2_with fail
    obtain ⟨X9, hX9, hNX, hx9, l9, hs9, hbx⟩ := xal HN.out (Obj.cells #[.int .i64 0, .int .i64 0] 85)
    try simp only [← hX9]
    generalize (wx1.alloc (Obj.cells #[.int .i64 0, .int .i64 0] 85)) = wx5 at *
    have HX9 := Lib.hid (And.intro hX9 hs9)
    have HN := bwt HN hbx
    clear hbx hX9 hs9
    refine tailL_mk HN.out ?_
    refine tree_one rfl ?_
    go_wp2_with fail
    refine (HOU.out _ HN.out).mono ?_
    rintro e11 wx6 ⟨rfl, hbx⟩
    have hzx := hbx.size
    have HN := bwt HN hbx
    have hx9 := (hbx.block X9 l9).trans hx9
    have l9 := Nat.lt_of_lt_of_le l9 hbx.size
    clear hbx
    go_wp2_with fail
    refine tailL_mk HN.out ?_
    refine tree_one rfl ?_
    obtain ⟨c90, c91, f90, f91⟩ := xcf2 hx9
    go_wp2_with fail
    have hq9 := xst2 HN.out hNX hx9 (.int .i64 on) (.int .i64 od)
    have HN := Lib.hid hq9.1
    have hxo := hx9
    have hx9 := hq9.2
    clear hq9
    refine tailL_mk HN.out ?_
    refine tree_done ?_
    go_wp2_with fail
    go_meet
    case rel => exact ⟨X9, rfl, Lib.hid hx9, Lib.hid hNX, HN⟩
  ·go_wp2_with fail
   obtain ⟨X9, hX9, hNX, hx9, l9, hs9, hbx, hbd⟩ := xald HN.out (Obj.cells #[.int .i64 0, .int .i64 0] 85)
   try simp only [← hX9]
   generalize (w2.alloc (Obj.cells #[.int .i64 0, .int .i64 0] 85)).drew = wx8 at *
   have HX9 := Lib.hid (And.intro hX9 hs9)
   have HN := Lib.hid hbx
   clear hbx hX9 hs9 hbd
   refine tailL_mk HN.out ?_
   refine tree_one rfl ?_
   go_wp2_with fail
   refine (HTU.out _).mono ?_
   rintro e11 wx9 ⟨rfl, hbx⟩
   have hzx := hbx.size
   have HN := bwt HN hbx
   have hx9 := (hbx.block X9 l9).trans hx9
   have l9 := Nat.lt_of_lt_of_le l9 hbx.size
   clear hbx
   go_wp2_with fail
   refine tailL_mk HN.out ?_
   refine tree_one rfl ?_
   go_wp2_with fail
   refine (HOU.out _ HN.out).mono ?_
   rintro e11 wx10 ⟨rfl, hbx⟩
   have hzx := hbx.size
   have HN := bwt HN hbx
   have hx9 := (hbx.block X9 l9).trans hx9
   have l9 := Nat.lt_of_lt_of_le l9 hbx.size
   clear hbx
   go_wp2_with fail
   refine tailL_mk HN.out ?_
   refine tree_one rfl ?_
   obtain ⟨c90, c91, f90, f91⟩ := xcf2 hx9
   go_wp2_with fail
   have hq9 := xst2 HN.out hNX hx9 (.int .i64 on) (.int .i64 od)
   have HN := Lib.hid hq9.1
   have hxo := hx9
   have hx9 := hq9.2
   clear hq9
   refine tailL_mk HN.out ?_
   refine tree_done ?_
   go_wp2_with fail
   go_meet
   case rel => exact ⟨X9, rfl, Lib.hid hx9, Lib.hid hNX, HN⟩
 case rest =>
  obtain ⟨w3, rfl⟩ : ∃ w', w' = wc := ⟨wc, rfl⟩
  obtain ⟨X9, rfl, K9, hX9, HN2⟩ := hcut
  have hb3 := HB2.out.trans (HN2.out.mono HB2.out.size)
  have HCR := Lib.hid (fun (W : World) (hbw : Below w3.heap.size w3 W) => HCR0.out W (hb3.trans (hbw.mono hb3.size)))
  have HV1 := Lib.hid (fun (W : World) (hbw : Below w3.heap.size w3 W) => HV10.out W (hb3.trans (hbw.mono hb3.size)))
  have n89 : X8 ≠ X9 := by have := K8.out.lt; have := hX9.out; omega
  have K4 := Lib.hid (K4.out.below HN2.out)
  have K8 := Lib.hid (K8.out.below HN2.out)
  have HB3 := Lib.hid hb3
  obtain ⟨c4, c4_1, c4_2, c4_3, c4_4, c4_5, c4_6, c4_7, c4_8, _⟩ := blkc9 K4.out
  obtain ⟨c9, c9_1, _⟩ := blkc2 K9.out
  have l4 := K4.out.lt
  have l9 := K9.out.lt
  have HX := Lib.hid (show w3.heap[X8]? = _ from K8.out)
  clear hb3 HN2 hX9 HOU HOU0 HTU
  go_wp2_with fail
  have HN := Lib.hid (Below.refl w3.heap.size w3).drew
  refine wp_region_laterY (B := w3.heap.size) [0, 1, 2, 4, 8, 9, 12] [3, 5, 6, 7, 10, 11, 13, 14, 15] [16] (by kernel_rfl) (by kernel_rfl) ?_; simp only [List.filterMap_cons, List.filterMap_nil, List.getElem?_cons_zero, List.getElem?_cons_succ]; repeat (show wpQuiet _ _ _ _ (_ :: _) _; go_big_quiet_step (fail))
  refine wpQuiet_nil ?_
  have HX := Lib.hid (blk_below HX.out (Below.refl _ _).drew)
  refine tailY_cons ?_
  go_wp2_with fail
  refine (HCR.out _ HN.out).mono ?_
  rintro e11 p1 ⟨g, rfl, hg, hgr, hbx⟩
  have HG := Lib.hid (show BlkR p1 g (.cells (pcells CT).toArray 85) from hgr)
  clear hg hgr
  have hzx := hbx.size
  have HN := bwt HN hbx
  have HX := Lib.hid (blk_below HX.out hbx)
  clear hbx
  go_wp2_with fail
  refine tailL_mk HN.out ?_
  refine tailY_cons ?_
  go_wp2_with fail
  have lg := HG.out.lt
  have cg0 := cell_of_row _ _ (i * 2) _ _ _ HG.out
  have cg1 := cell_of_row _ _ (i * 2 + 1) _ _ _ HG.out
  rw [List.getElem?_toArray] at cg0 cg1
  rw [HPG.out.1] at cg0
  rw [HPG.out.2] at cg1
  go_wp2_with fail
  refine tailL_mk HN.out ?_
  refine tailY_cons ?_
  go_wp2_with fail
  refine tailL_mk HN.out ?_
  refine tailY_cons ?_
  go_wp2_with fail
  clear cg0 cg1 lg
  refine (HS1.out _).mono ?_
  rintro e11 p2 ⟨rfl, hbx⟩
  have hzx := hbx.size
  have HN := bwt HN hbx
  have HG := Lib.hid (HG.out.below hbx)
  have HX := Lib.hid (blk_below HX.out hbx)
  clear hbx
  go_wp2_with fail
  refine tailL_mk HN.out ?_
  refine tailY_cons ?_
  go_wp2_with fail
  refine (HV1.out _ HN.out).mono ?_
  rintro e11 p3 ⟨rfl, hbx⟩
  have hzx := hbx.size
  have HN := bwt HN hbx
  have HG := Lib.hid (HG.out.below hbx)
  have HX := Lib.hid (blk_below HX.out hbx)
  clear hbx
  go_wp2_with fail
  refine tailL_mk HN.out ?_
  refine tailY_cons ?_
  go_wp2_with fail
  refine (t_whole_any _ _).mono ?_
  rintro e11 p4 ⟨rfl, hbx⟩
  have hzx := hbx.size
  have HN := bwt HN hbx
  have HG := Lib.hid (HG.out.below hbx)
  have HX := Lib.hid (blk_below HX.out hbx)
  clear hbx
  go_wp2_with fail
  refine tailL_mk HN.out ?_
  refine tailY_cons ?_
  go_wp2_with fail
  refine (HMI.out _).mono ?_
  rintro e11 p5 ⟨rfl, hbx⟩
  have hzx := hbx.size
  have HN := bwt HN hbx
  have HG := Lib.hid (HG.out.below hbx)
  have HX := Lib.hid (blk_below HX.out hbx)
  clear hbx
  go_wp2_with fail
  refine tailL_mk HN.out ?_
  refine tailY_cons ?_
  go_wp2_with fail
  refine (HS2.out _).mono ?_
  rintro e11 p6 ⟨rfl, hbx⟩
  have hzx := hbx.size
  have HN := bwt HN hbx
  have HG := Lib.hid (HG.out.below hbx)
  have HX := Lib.hid (blk_below HX.out hbx)
  clear hbx
  go_wp2_with fail
  refine tailL_mk HN.out ?_
  refine tailY_cons ?_
  go_wp2_with fail
  refine tailL_mk HN.out ?_
  refine tailY_ends ?_
  refine ends_cons ?_
  obtain ⟨x0, x1, x2, x3, _⟩ := blkc4 HX.out
  have f0 := blk_fz HX.out 0
  have f1 := blk_fz HX.out 1
  have f2 := blk_fz HX.out 2
  have f3 := blk_fz HX.out 3
  go_wp2_with fail
  refine tailZ_end ?_
  refine ends_nil ?_
  obtain ⟨W3, hW3⟩ : ∃ W3, W3 = ((((p6.setCell ⟨X8, 0, none⟩ (.int .i64 (sz cn))).setCell ⟨X8, 1, none⟩ (.int .i64 cd)).setCell ⟨X8, 2, none⟩ (.int .i64 (sz wn))).setCell ⟨X8, 3, none⟩ (.int .i64 wd)) := ⟨_, rfl⟩
  rw [← hW3]
  have kw : W3.heap[X8]? = some (.cells #[.int .i64 (sz cn), .int .i64 cd, .int .i64 (sz wn), .int .i64 wd] 148) := by rw [hW3]; exact blk_set (blk_set (blk_set (blk_set HX.out 0 _) 1 _) 2 _) 3 _
  have hbz : Below w.heap.size w W3 := by rw [hW3]; exact (((((HB3.out.trans (HN.out.mono HB3.out.size)).setCell hw8 _).setCell hw8 _).setCell hw8 _).setCell hw8 _)
  obtain ⟨r0, r1, r2, r3, _⟩ := blkc4 kw
  clear x0 x1 x2 x3 f0 f1 f2 f3 hW3
  go_wp2
  refine bodyPost_ret (v := .agg #[.int .i64 (sz cn), .int .i64 cd, .int .i64 (sz wn), .int .i64 wd]) (by simp [results, Tryz.results94, go_sem, r0, r1, r2, r3]) rfl ⟨rfl, hbz⟩
/- Safe states and safe changes: the program. -/
theorem trn_lt {n s i : Nat} (hn : n ≤ 6) (hs : s < 2 ^ n) (hi : i < n) : trn s i < 2 ^ n := turn_lt n (by omega) s hs i hi
theorem curE_s0 {m : Mac} {s : Nat} (h : curE m s = 0) : s ≠ 0 := by
 rintro rfl
 rw [curE_cases, if_pos rfl] at h
 exact absurd h (by decide)
theorem safE_cur {m : Mac} {l : Lim} {s : Nat} (h : safE m l s = 0) : curE m s = 0 := by
 unfold safE at h
 split at h
 ·rename_i h1; exact absurd h h1
 ·rename_i h1; exact Decidable.not_not.1 h1
theorem lodE_first (m : Mac) (l : Lim) (s i : Nat) (load : Int) : lodE m l s i load = firstErr [unl (!decide (l.brk * (brkC m l s i load).2 < (brkC m l s i load).1)) 22, unl (!decide (l.ret * (brkV m l s i load).2 < (brkV m l s i load).1)) 24] := by
 unfold lodE
 by_cases h1 : l.brk * (brkC m l s i load).2 < (brkC m l s i load).1
 ·rw [if_pos h1]; simp [h1, unl, firstErr]
 ·rw [if_neg h1]
  by_cases h2 : l.ret * (brkV m l s i load).2 < (brkV m l s i load).1
  ·rw [if_pos h2]; simp [h1, h2, unl, firstErr]
  ·rw [if_neg h2]; simp [h1, h2, unl, firstErr]
theorem cirA_bd {m : Mac} {l : Lim} {s : Nat} (h : ElV m l s 0) : 0 < (cirA m l s).2 ∧ (cirA m l s).2 ≤ 38102400 := (cirF_bd h (Nat.le_refl _)).2
theorem brkC_bd {m : Mac} {l : Lim} {s i : Nat} {load : Int} (h : ElV m l s load) (hi : i < m.br.length) : 0 < (brkC m l s i load).2 ∧ (brkC m l s i load).2 ≤ 151200 := (curT_bd h hi).2
theorem brkV_bd {m : Mac} {l : Lim} {s i : Nat} {load : Int} (h : ElV m l (trn s i) load) (hi : i < m.br.length) : 0 < (brkV m l s i load).2 ∧ (brkV m l s i load).2 ≤ 15120 := by
 obtain ⟨d0, d1, _⟩ := h.vo
 obtain ⟨_, p, q, _⟩ := low_props (a := volA m l i * (outT m l (trn s i) load).2 - (outT m l (trn s i) load).1 * 1) (b := 1 * (outT m l (trn s i) load).2) (by rw [Int.one_mul]; exact d0)
 unfold brkV brkW
 exact ⟨p, by omega⟩
theorem mul_small {a b : Int} (ha : 0 ≤ a ∧ a ≤ 1000) (hb : 0 < b ∧ b ≤ 38102400) : -9223372036854775807 ≤ a * b ∧ a * b ≤ 9223372036854775807 := by
 have h1 := Int.mul_nonneg ha.1 (Int.le_of_lt hb.1)
 have h2 : a * b ≤ 1000 * 38102400 := Int.mul_le_mul ha.2 hb.2 (Int.le_of_lt hb.1) (by decide)
 omega
set_option maxHeartbeats 2000000 in
set_option maxRecDepth 100000 in
theorem safe_any (m : Mac) (l : Lim) (s : Nat) (ab ag : Option Addr) (nb cb ng cg : Nat) (w : World) (hm : MacV m) (hl : limE l = 0) (hb : BrR w ab nb m.br) (hs : s < 2 ^ nb) :
    Calls Tryz.prog 62 #[.agg #[.slice ab nb cb, .int .i64 m.st, .slice ag ng cg, .int .i64 l.volt, .int .i64 l.lo, .int .i64 l.hi, .int .i64 l.circ, .int .i64 l.brk, .int .i64 l.ret], .int .i64 (s : Int)] w fun e' w' => e' = .returned (.int .i64 (safE m l s)) ∧ Below w.heap.size w w' := by
 have hlen := hb.len
 have HCE := Lib.hid (fun (W : World) (hbw : Below w.heap.size w W) => currentsErr_any m l s ab ag nb cb ng cg W hm (hb.below hbw) hs)
 have HEL := Lib.hid (fun (h : curE m s = 0) => show ElV m l s 0 from ⟨hm, (limE_zero.1 hl).1, by decide, by rw [hlen]; exact hs, curE_s0 h⟩)
 have HCI := Lib.hid (fun (h : curE m s = 0) (W : World) (hbw : Below w.heap.size w W) => circulating_any m l s ab ag nb cb ng cg W (hb.below hbw) (HEL.out h))
 have HXB := Lib.hid (fun (h : curE m s = 0) => mul_small (limE_zero.1 hl).2.2.1 (cirA_bd (HEL.out h)))
 have hV : safE m l s = if curE m s ≠ 0 then curE m s else if l.circ * (cirA m l s).2 < (cirA m l s).1 then 22 else 0 := rfl
 obtain ⟨V, hVV⟩ : ∃ V, V = safE m l s := ⟨_, rfl⟩
 rw [← hVV] at hV ⊢
 generalize curE m s = CE at *
 generalize cirA m l s = CA at *
 obtain ⟨vo, lo, hi, ci, br, re⟩ := l
 obtain ⟨st, hst⟩ : ∃ x, x = m.st := ⟨_, rfl⟩
 rw [← hst] at HCE HCI ⊢
 obtain ⟨cn, cd⟩ := CA
 simp only at HCE HCI HXB hV ⊢
 have HV := Lib.hid hV
 clear hb hst hV hVV hm hl hs hlen HEL
 go_enter Tryz.func62, Tryz.ntmps62
 go_wp2_with fail
 obtain ⟨w1, hW1⟩ : ∃ w1, w1 = w.alloc (Obj.cells #[.slice ab nb cb, .int .i64 st, .slice ag ng cg, .int .i64 vo, .int .i64 lo, .int .i64 hi, .int .i64 ci, .int .i64 br, .int .i64 re] 100) := ⟨_, rfl⟩
 rw [← hW1]
 have hb1 : Below w.heap.size w w1 := by rw [hW1]; (first|exact bwg|go_size)
 have k1 : BlkR w1 w.heap.size (.cells #[.slice ab nb cb, .int .i64 st, .slice ag ng cg, .int .i64 vo, .int .i64 lo, .int .i64 hi, .int .i64 ci, .int .i64 br, .int .i64 re] 100) := by show w1.heap[w.heap.size]? = _; rw [hW1]; exact heap_alloc_new _ _
 obtain ⟨X1, hX1⟩ : ∃ X, X = w.heap.size := ⟨_, rfl⟩
 rw [← hX1] at k1
 simp only [← hX1]
 have K1 := Lib.hid k1
 have HB1 := Lib.hid hb1
 clear hW1 hX1 k1 hb1
 obtain ⟨c1, c1_1, c1_2, c1_3, c1_4, c1_5, c1_6, c1_7, c1_8, l1⟩ := blkc9 K1.out
 refine (HCE.out _ HB1.out).mono ?_
 rintro e5 w5 ⟨rfl, hb5⟩
 have HB := bwt HB1 hb5
 have K1 := Lib.hid (K1.out.below hb5)
 clear hb5 c1 c1_1 c1_2 c1_3 c1_4 c1_5 c1_6 c1_7 c1_8 l1 HCE HB1
 obtain ⟨c1, c1_1, c1_2, c1_3, c1_4, c1_5, c1_6, c1_7, c1_8, l1⟩ := blkc9 K1.out
 by_cases h0 : CE = 0
 ·subst h0
  have HVN := Lib.hid (show V = if ci * cd < cn then 22 else 0 by rw [HV.out, if_neg (by simp)])
  have hxb := HXB.out rfl
  have HCN := Lib.hid (fun (W : World) (hbw : Below w5.heap.size w5 W) => HCI.out rfl W (HB.out.trans (hbw.mono HB.out.size)))
  have HEX := Lib.hid (fun (W : World) => t_exceeds_any cn cd ci W hxb)
  clear HXB HCI HV hxb
  go_wp2_with fail
  refine later_of_eq 6 (by kernel_rfl) (by kernel_rfl) ?_; simp only [List.take_succ_cons, List.take_zero, List.drop_succ_cons, List.drop_zero]; repeat go_big_quiet_step(with_reducible exact calls_later (HCN.out _ (Later.below _)))
  refine wpQuiet_nil ?_; intro w9 hb9
  have HB := bwt HB hb9
  clear hb9 c1 c1_1 c1_2 c1_3 c1_4 c1_5 c1_6 c1_7 c1_8 l1 K1 HCN
  go_wp2_with fail
  refine (HEX.out _).mono ?_
  rintro e10 w10 ⟨rfl, hb10⟩
  have HB := bwt HB hb10
  clear hb10
  by_cases hx : ci * cd < cn
  ·have hx1 : decide (ci * cd < cn) = true := decide_eq_true hx
   have HVX := Lib.hid (show V = 22 by rw [HVN.out, if_pos hx])
   clear hx HVN
   go_wp2_with fail
   refine (t_unless_any _ _ _).mono ?_
   rintro e11 w11 ⟨rfl, rfl⟩
   go_wp2
   go_ret
   exact ⟨ret_int (by rw [HVX.out]; rfl), HB.out⟩
  ·have hx1 : decide (ci * cd < cn) = false := decide_eq_false hx
   have HVX := Lib.hid (show V = 0 by rw [HVN.out, if_neg hx])
   clear hx HVN
   go_wp2_with fail
   refine (t_unless_any _ _ _).mono ?_
   rintro e11 w11 ⟨rfl, rfl⟩
   go_wp2
   go_ret
   exact ⟨ret_int (by rw [HVX.out]; rfl), HB.out⟩
 ·have HVN := Lib.hid (show V = CE by rw [HV.out, if_pos h0])
  have e1 := bne_iff_ne.2 h0
  clear h0 HCI HV HXB
  go_wp2
  go_ret
  exact ⟨ret_int (by rw [HVN.out]), HB.out⟩
end Go.Proofs.YtdjinmieogpgcaaGreat
