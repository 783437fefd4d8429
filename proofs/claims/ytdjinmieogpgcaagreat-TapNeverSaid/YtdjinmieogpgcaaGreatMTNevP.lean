import Derived.Test.YtdjinmieogpgcaaGreatMTRun
import Derived.Test.YtdjinmieogpgcaaGreatTKep
/- What a failure and an invariant are, in plain words. -/
namespace Go.Proofs.YtdjinmieogpgcaaGreat
set_option linter.unusedVariables false
theorem firstAt_hitN {f : Nat → Int} {k : Nat} (hf : f k ≠ 0) : ∀ m j, j ≤ k → k < j + m → (∀ i, j ≤ i → i < k → f i = 0) → firstAt f m j = ((k : Int), f k)
 | 0, j, h1, h2, _ => by omega
 | m + 1, j, h1, h2, h => by
  unfold firstAt
  by_cases hj : j = k
  ·subst hj; rw [if_pos hf]
  ·rw [if_neg (by rw [h j (Nat.le_refl _) (by omega)]; exact fun h => h rfl)]
   exact firstAt_hitN hf m (j + 1) (by omega) (by omega) (fun i h3 h4 => h i (by omega) h4)
theorem reaIn_sub {o : List Nat} {s t : Nat} (h : t ∈ o) : ∀ L : List Nat, t ∈ reaIn o s L := by
 refine snoc_ind h (fun L c ih => ?_)
 rw [reaIn_snoc]
 split
 ·exact ih
 ·exact List.mem_append_left _ ih
theorem reaIn_preN (o : List Nat) (s : Nat) : ∀ L : List Nat, ∃ t, reaIn o s L = o ++ t := by
 refine snoc_ind ⟨[], by simp [reaIn]⟩ (fun L c ih => ?_)
 obtain ⟨t, ht⟩ := ih
 rw [reaIn_snoc]
 split
 ·exact ⟨t, ht⟩
 ·exact ⟨t ++ [trn s c], by rw [ht, List.append_assoc]⟩
theorem reaIn_hasA {o : List Nat} {s : Nat} : ∀ L : List Nat, ∀ c ∈ L, trn s c ∈ reaIn o s L := by
 refine snoc_ind (fun c hc => by cases hc) (fun L c ih => ?_)
 intro d hd
 rw [reaIn_snoc]
 rcases List.mem_append.1 hd with h | h
 ·split
  ·exact ih d h
  ·exact List.mem_append_left _ (ih d h)
 ·rw [List.mem_singleton.1 h]
  split
  ·assumption
  ·simp
theorem reaIn_has {o : List Nat} {s c : Nat} {L : List Nat} (h : c ∈ L) : trn s c ∈ reaIn o s L := reaIn_hasA L c h
theorem reaIn_all {Q : Nat → Prop} {o : List Nat} {s : Nat} (ho : ∀ t ∈ o, Q t) : ∀ L : List Nat, (∀ c ∈ L, Q (trn s c)) → ∀ t ∈ reaIn o s L, Q t := by
 refine snoc_ind (fun _ => ho) (fun L c ih hL => ?_)
 have ih := ih (fun c hc => hL c (List.mem_append_left _ hc))
 rw [reaIn_snoc]
 split
 ·exact ih
 ·intro t ht
  rcases List.mem_append.1 ht with h | h
  ·exact ih t h
  ·rw [List.mem_singleton.1 h]; exact hL c (by simp)
theorem nats_getD (r : List Nat) (j : Nat) : (nats r).getD j 0 = ((r.getD j 0 : Nat) : Int) := by
 unfold nats
 rw [List.getD_eq_getElem?_getD, List.getD_eq_getElem?_getD, List.getElem?_map]
 cases r[j]? <;> rfl
theorem nats_len (r : List Nat) : (nats r).length = r.length := by unfold nats; rw [List.length_map]
theorem runS_nat (m : Mac) (r : List Nat) (k : Nat) : runS m (nats r) (k + 1) = trn (runS m (nats r) k) (r.getD k 0) := by
 show trn _ ((nats r).getD k 0).toNat = _
 rw [nats_getD]; rfl
theorem runS_app (m : Mac) (r : List Nat) (c : Nat) : ∀ k, k ≤ r.length → runS m (nats (r ++ [c])) k = runS m (nats r) k
 | 0, _ => rfl
 | k + 1, h => by
  rw [runS_nat, runS_nat, runS_app m r c k (by omega)]
  congr 1
  rw [List.getD_eq_getElem?_getD, List.getD_eq_getElem?_getD, List.getElem?_append_left (by omega)]
structure Good (m : Mac) (l : Lim) (s : Nat) (r : List Nat) : Prop where
 at_ : runS m (nats r) r.length = s
 lt : ∀ j, j < r.length → r.getD j 0 < m.br.length
 ok : ∀ j, j < r.length → chgE m l (runS m (nats r) j) (r.getD j 0) = 0
theorem Good.snoc {m : Mac} {l : Lim} {s c : Nat} {r : List Nat} (h : Good m l s r) (hc : c < m.br.length) (hk : chgE m l s c = 0) : Good m l (trn s c) (r ++ [c]) := by
 have hl : (r ++ [c]).length = r.length + 1 := by simp
 have hg : (r ++ [c]).getD r.length 0 = c := by rw [List.getD_eq_getElem?_getD, List.getElem?_append_right (Nat.le_refl _)]; simp
 have hj : ∀ j, j < r.length → (r ++ [c]).getD j 0 = r.getD j 0 := fun j hj => by rw [List.getD_eq_getElem?_getD, List.getD_eq_getElem?_getD, List.getElem?_append_left hj]
 refine ⟨?_, fun j hjl => ?_, fun j hjl => ?_⟩
 ·rw [hl, runS_nat, runS_app m r c _ (Nat.le_refl _), h.at_, hg]
 ·rw [hl] at hjl
  rcases Nat.lt_or_ge j r.length with h1 | h1
  ·rw [hj j h1]; exact h.lt j h1
  ·obtain rfl : j = r.length := by omega
   rw [hg]; exact hc
 ·rw [hl] at hjl
  rcases Nat.lt_or_ge j r.length with h1 | h1
  ·rw [hj j h1, runS_app m r c j (by omega)]; exact h.ok j h1
  ·obtain rfl : j = r.length := by omega
   rw [hg, runS_app m r c _ (Nat.le_refl _), h.at_]; exact hk
theorem good_in {m : Mac} {l : Lim} {o : List (Nat × List Nat)} {s : Nat} {r : List Nat} (hs : Good m l s r) (ho : ∀ p ∈ o, Good m l p.1 p.2) : ∀ L : List Nat, (∀ c ∈ L, c < m.br.length ∧ chgE m l s c = 0) → ∀ p ∈ faiIn o s r L, Good m l p.1 p.2 := by
 refine snoc_ind (fun _ => ho) (fun L c ih hL => ?_)
 have ih := ih (fun c hc => hL c (List.mem_append_left _ hc))
 rw [faiIn_snoc]
 split
 ·exact ih
 ·intro p hp
  rcases List.mem_append.1 hp with h | h
  ·exact ih p h
  ·simp at h; subst h
   obtain ⟨h1, h2⟩ := hL c (by simp)
   exact hs.snoc h1 h2
theorem faiK_none {m : Mac} {l : Lim} {k : Nat} {p : Nat × List Nat} (hp : (faiF m k)[k]? = some p) (h : faiK m l k = none) : ∀ c ∈ movL m p.1, chgE m l p.1 c = 0 := by
 unfold faiK at h
 rw [hp] at h
 simp only [Option.map_eq_none_iff] at h
 intro c hc
 have := List.find?_eq_none.1 h c hc
 simpa using this
theorem good_F {m : Mac} {l : Lim} : ∀ k, (∀ i, i < k → faiK m l i = none) → ∀ p ∈ faiF m k, Good m l p.1 p.2
 | 0, _ => by
  intro p hp
  simp [faiF] at hp; subst hp
  exact ⟨rfl, fun j hj => by simp at hj, fun j hj => by simp at hj⟩
 | k + 1, h => by
  have ih := good_F k (fun i hi => h i (by omega))
  show ∀ p ∈ (match (faiF m k)[k]? with | some p => faiIn (faiF m k) p.1 p.2 (movL m p.1) | none => faiF m k), Good m l p.1 p.2
  cases hp : (faiF m k)[k]? with
  | none => exact ih
  | some p =>
   have h0 := faiK_none hp (h k (by omega))
   exact good_in (ih p (List.mem_of_getElem? hp)) ih _ (fun c hc => ⟨movL_lt hc, h0 c hc⟩)
theorem faiFrom_some {m : Mac} {l : Lim} {r : List Nat} : ∀ j k, faiFrom m l j k = some r → ∃ i, k ≤ i ∧ (∀ t, k ≤ t → t < i → faiK m l t = none) ∧ faiK m l i = some r
 | 0, k, h => by simp [faiFrom] at h
 | j + 1, k, h => by
  have h' : (match faiK m l k with | some r => some r | none => faiFrom m l j (k + 1)) = some r := h
  cases hk : faiK m l k with
  | some r' =>
   rw [hk] at h'
   simp only [Option.some.injEq] at h'
   subst h'
   exact ⟨k, Nat.le_refl _, fun t h1 h2 => by omega, hk⟩
  | none =>
   rw [hk] at h'
   obtain ⟨i, h1, h2, h3⟩ := faiFrom_some j (k + 1) h'
   refine ⟨i, by omega, fun t h4 h5 => ?_, h3⟩
   by_cases ht : t = k
   ·subst ht; exact hk
   ·exact h2 t (by omega) h5
theorem faiFrom_nil {m : Mac} {l : Lim} : ∀ j k, faiFrom m l j k = none → ∀ t, k ≤ t → t < k + j → faiK m l t = none
 | 0, k, _, t, h1, h2 => by omega
 | j + 1, k, h, t, h1, h2 => by
  have h' : (match faiK m l k with | some r => some r | none => faiFrom m l j (k + 1)) = none := h
  cases hk : faiK m l k with
  | some r' => rw [hk] at h'; simp at h'
  | none =>
   rw [hk] at h'
   by_cases ht : t = k
   ·subst ht; exact hk
   ·exact faiFrom_nil j (k + 1) h' t (by omega) (by omega)
theorem curE_vals (m : Mac) (s : Nat) : curE m s = 0 ∨ curE m s = 21 ∨ curE m s = 13 ∨ curE m s = 23 := by
 unfold curE
 generalize decide (s ≠ 0) = a
 generalize (decide (dirS m s 0 = 0) || decide (dirS m s 1 = 0)) = b
 generalize (decide (dirS m s 0 ≤ 1) && decide (dirS m s 1 ≤ 1)) = c
 cases a <;> cases b <;> cases c <;> simp [firstErr, unl]
theorem safE_vals (m : Mac) (l : Lim) (s : Nat) : safE m l s ≠ 18 ∧ safE m l s ≠ 6 := by
 have := curE_vals m s
 unfold safE
 split
 ·omega
 ·split <;> omega
theorem lodE_vals (m : Mac) (l : Lim) (s i : Nat) (x : Int) : lodE m l s i x ≠ 18 ∧ lodE m l s i x ≠ 6 := by
 unfold lodE
 split
 ·omega
 ·split <;> omega
theorem chgE_vals {m : Mac} {l : Lim} {s i : Nat} (h : mayB m s i = true) : chgE m l s i ≠ 18 ∧ chgE m l s i ≠ 6 := by
 have h1 := curE_vals m s
 have h2 := safE_vals m l (trn s i)
 have h3 := lodE_vals m l s i l.lo
 have h4 := lodE_vals m l s i l.hi
 unfold chgE
 rw [if_neg (by rw [h]; decide)]
 split
 ·omega
 ·split
  ·exact h2
  ·split
   ·omega
   ·split
    ·exact h3
    ·exact h4
theorem chgE_safe {m : Mac} {l : Lim} {s i : Nat} (h : chgE m l s i = 0) : safE m l (trn s i) = 0 := by
 unfold chgE at h
 split at h
 ·omega
 ·split at h
  ·omega
  ·split at h
   ·omega
   ·rename_i h0
    exact Decidable.not_not.1 h0
theorem fail_run {m : Mac} {l : Lim} {r : List Nat} (hn : m.br.length ≤ 6) (h : faiV m l = some r) (hr : r ≠ []) :
    safE m l m.st.toNat = 0 ∧ ∃ q c, r = q ++ [c] ∧ c < m.br.length ∧ mayB m (runS m (nats q) q.length) c = true ∧ chgE m l (runS m (nats q) q.length) c ≠ 0 ∧ (∀ j, j < q.length → q.getD j 0 < m.br.length ∧ chgE m l (runS m (nats q) j) (q.getD j 0) = 0) := by
 unfold faiV at h
 split at h
 ·simp only [Option.some.injEq] at h; exact absurd h.symm hr
 ·rename_i h0
  obtain ⟨k, _, h1, h2⟩ := faiFrom_some _ _ h
  refine ⟨Decidable.not_not.1 h0, ?_⟩
  unfold faiK at h2
  cases hp : (faiF m k)[k]? with
  | none => rw [hp] at h2; simp at h2
  | some p =>
   rw [hp] at h2
   simp only [Option.map_eq_some_iff] at h2
   obtain ⟨c, hc, rfl⟩ := h2
   have hg := good_F k (fun i hi => h1 i (Nat.zero_le _) hi) p (List.mem_of_getElem? hp)
   unfold badC at hc
   have hm := List.mem_of_find?_eq_some hc
   have hb := List.find?_some hc
   simp only [decide_eq_true_eq] at hb
   exact ⟨p.2, c, rfl, movL_lt hm, by rw [hg.at_]; exact movL_may hm, by rw [hg.at_]; exact hb, fun j hj => ⟨hg.lt j hj, hg.ok j hj⟩⟩
theorem fail_runX {m : Mac} {l : Lim} {q : List Nat} {c : Nat} (h0 : safE m l m.st.toNat = 0) (hc : c < m.br.length) (hb : chgE m l (runS m (nats q) q.length) c ≠ 0)
    (hq : ∀ j, j < q.length → q.getD j 0 < m.br.length ∧ chgE m l (runS m (nats q) j) (q.getD j 0) = 0) (hl : q.length + 1 ≤ 40) :
    runX m l (nats (q ++ [c])) = ((q.length : Int), chgE m l (runS m (nats q) q.length) c) ∧ (runX m l (nats q)).2 = 0 := by
 have hH : ∀ n : Nat, n ≤ 40 → runH m l n = 0 := fun n hn => by
  unfold runH
  rw [decide_eq_true (by omega), h0]; rfl
 have hE : ∀ j, j < q.length → runE m l (nats q) j = 0 := fun j hj => by
  obtain ⟨h1, h2⟩ := hq j hj
  unfold runE
  rw [nats_getD, if_neg (by rw [conE_zero.2 (by omega)]; simp)]
  exact h2
 have hgl : (q ++ [c]).getD q.length 0 = c := by rw [List.getD_eq_getElem?_getD, List.getElem?_append_right (Nat.le_refl _)]; simp
 have hjj : ∀ j, j < q.length → (q ++ [c]).getD j 0 = q.getD j 0 := fun j hj => by rw [List.getD_eq_getElem?_getD, List.getD_eq_getElem?_getD, List.getElem?_append_left hj]
 have hE2 : ∀ j, j < q.length → runE m l (nats (q ++ [c])) j = 0 := fun j hj => by
  have := hE j hj
  unfold runE at this ⊢
  rw [nats_getD] at this ⊢
  rw [hjj j hj, runS_app m q c j (by omega)]
  exact this
 have hE3 : runE m l (nats (q ++ [c])) q.length = chgE m l (runS m (nats q) q.length) c := by
  unfold runE
  rw [nats_getD, hgl, if_neg (by rw [conE_zero.2 (by omega)]; simp), runS_app m q c _ (Nat.le_refl _)]
  rfl
 constructor
 ·unfold runX
  rw [nats_len, if_neg (by rw [hH _ (by simpa using hl)]; simp)]
  rw [firstAt_hitN (k := q.length) (by rw [hE3]; exact hb) _ 0 (Nat.zero_le _) (by simp) (fun i _ hi => hE2 i hi), hE3]
 ·unfold runX
  rw [nats_len, if_neg (by rw [hH _ (by omega)]; simp), firstAt_all _ _ (fun j _ hj => hE j (by omega))]
theorem reaF_mem (m : Mac) : ∀ (j k : Nat) (s : Nat), s ∈ reaF m k → s ∈ reaF m (k + j)
 | 0, _, _, h => h
 | j + 1, k, s, h => by
  have ih := reaF_mem m j k s h
  show s ∈ (match (reaF m (k + j))[k + j]? with | some s => reaIn (reaF m (k + j)) s (movL m s) | none => reaF m (k + j))
  cases (reaF m (k + j))[k + j]? with
  | none => exact ih
  | some q => exact reaIn_sub ih _
theorem reaF_get (m : Mac) {i : Nat} : ∀ (j k : Nat), i < (reaF m k).length → (reaF m (k + j))[i]? = (reaF m k)[i]?
 | 0, _, _ => rfl
 | j + 1, k, h => by
  have ih := reaF_get m j k h
  show (match (reaF m (k + j))[k + j]? with | some s => reaIn (reaF m (k + j)) s (movL m s) | none => reaF m (k + j))[i]? = _
  cases (reaF m (k + j))[k + j]? with
  | none => exact ih
  | some q =>
   obtain ⟨t, ht⟩ := reaIn_preN (reaF m (k + j)) q (movL m q)
   rw [← ih]
   show (reaIn (reaF m (k + j)) q (movL m q))[i]? = _
   rw [ht, List.getElem?_append_left]
   have : (reaF m (k + j))[i]? ≠ none := by rw [ih]; simpa using h
   have := mt List.getElem?_eq_none this
   omega
theorem rea_at {m : Mac} (hm : MacV m) {s : Nat} (h : s ∈ reaA m) : ∃ k, k < 64 ∧ (reaF m k)[k]? = some s := by
 obtain ⟨k, hk, hs⟩ := List.mem_iff_getElem.1 h
 have h64 : (reaA m).length ≤ 64 := (reaF_ok hm 64).len hm
 have hkl : k < (reaF m k).length := by
  rcases Nat.lt_or_ge k (reaF m k).length with h1 | h1
  ·exact h1
  ·have := reaF_all hm h1 (by omega)
   rw [← this] at hk
   omega
 refine ⟨k, by omega, ?_⟩
 have := reaF_get m (64 - k) k hkl
 rw [← this, show k + (64 - k) = 64 by omega]
 rw [← hs]
 exact List.getElem?_eq_getElem hk
theorem rea_closed {m : Mac} {l : Lim} (hm : MacV m) (hv : faiV m l = none) {s : Nat} (h : s ∈ reaA m) : ∀ c ∈ movL m s, chgE m l s c = 0 ∧ trn s c ∈ reaA m := by
 intro c hc
 obtain ⟨k, hk, hs⟩ := rea_at hm h
 have hn : faiFrom m l 64 0 = none := by
  unfold faiV at hv
  split at hv
  ·simp at hv
  ·exact hv
 have hkn := faiFrom_nil 64 0 hn k (Nat.zero_le _) (by omega)
 obtain ⟨p, hp, rfl⟩ : ∃ p, (faiF m k)[k]? = some p ∧ p.1 = s := by
  rw [← faiF_keys, List.getElem?_map] at hs
  cases hq : (faiF m k)[k]? with
  | none => rw [hq] at hs; simp at hs
  | some p => rw [hq] at hs; exact ⟨p, rfl, by simpa using hs⟩
 refine ⟨faiK_none hp hkn c hc, ?_⟩
 have h1 : trn p.1 c ∈ reaF m (k + 1) := by
  rw [reaF_next hs]
  exact reaIn_has hc
 have := reaF_mem m (64 - (k + 1)) (k + 1) _ h1
 rwa [show k + 1 + (64 - (k + 1)) = 64 by omega] at this
theorem rea_safe {m : Mac} {l : Lim} (hm : MacV m) (hv : faiV m l = none) : ∀ k, k ≤ 64 → ∀ s ∈ reaF m k, safE m l s = 0
 | 0, _ => by
  intro s hs
  simp [reaF] at hs; subst hs
  unfold faiV at hv
  split at hv
  ·simp at hv
  ·rename_i h0; exact Decidable.not_not.1 h0
 | k + 1, hk => by
  have ih := rea_safe hm hv k (by omega)
  show ∀ s ∈ (match (reaF m k)[k]? with | some s => reaIn (reaF m k) s (movL m s) | none => reaF m k), safE m l s = 0
  cases hp : (reaF m k)[k]? with
  | none => exact ih
  | some p =>
   have hpa : p ∈ reaA m := by
    have := reaF_mem m (64 - k) k p (List.mem_of_getElem? hp)
    rwa [show k + (64 - k) = 64 by omega] at this
   have hcl := rea_closed hm hv hpa
   exact reaIn_all ih (movL m p) (fun c hc => chgE_safe (hcl c hc).1)
theorem reaS_mem {m : Mac} (hm : MacV m) {s : Nat} : s ∈ reaS m ↔ s ∈ reaA m := by
 unfold reaS
 rw [List.mem_filter, List.mem_range, decide_eq_true_eq]
 exact ⟨fun h => h.2, fun h => ⟨(reaF_ok hm 64).lt s h, h⟩⟩
theorem nats_any (L : List Nat) (t : Nat) : (nats L).any (fun q : Int => decide ((t : Int) = q)) = decide (t ∈ L) := by
 rw [Bool.eq_iff_iff, List.any_eq_true, decide_eq_true_eq]
 unfold nats
 constructor
 ·rintro ⟨q, hq, h⟩
  obtain ⟨x, hx, rfl⟩ := List.mem_map.1 hq
  have : t = x := by have := of_decide_eq_true h; omega
  exact this ▸ hx
 ·intro h
  exact ⟨(t : Int), List.mem_map.2 ⟨t, h, rfl⟩, by simp⟩
theorem firstErr_all0 : ∀ l : List Int, (∀ x ∈ l, x = 0) → firstErr l = 0
 | [], _ => rfl
 | x :: r, h => firstErr_cons.2 ⟨h x (by simp), firstErr_all0 r (fun y hy => h y (by simp [hy]))⟩
theorem reaS_inc (m : Mac) (i : Nat) (hi : i + 1 < (reaS m).length) : (reaS m).getD i 0 < (reaS m).getD (i + 1) 0 := by
 have hp : (reaS m).Pairwise (· < ·) := List.Pairwise.filter _ List.pairwise_lt_range
 rw [List.getD_eq_getElem?_getD, List.getD_eq_getElem?_getD, List.getElem?_eq_getElem hi, List.getElem?_eq_getElem (show i < _ by omega)]
 exact List.pairwise_iff_getElem.1 hp i (i + 1) (by omega) hi (by omega)
theorem inv_kept {m : Mac} {l : Lim} (hm : MacV m) (hv : faiV m l = none) (i : Nat) (hi : i < (reaS m).length) : kepE m l (nats (reaS m)) i = 0 := by
 have hmem : (reaS m).getD i 0 ∈ reaS m := by
  rw [List.getD_eq_getElem?_getD, List.getElem?_eq_getElem hi]; exact List.getElem_mem hi
 have hra := (reaS_mem hm).1 hmem
 have hF : kepF m (nats (reaS m)) i = 0 := by
  unfold kepF
  rw [nats_getD]
  have h1 : staE m.br.length (((reaS m).getD i 0 : Nat) : Int) = 0 := by
   rw [staE_zero]
   have := (reaF_ok hm 64).lt _ hra
   have h2 : ((2 ^ m.br.length : Nat) : Int) = (2 : Int) ^ m.br.length := by push_cast; rfl
   omega
  have h2 : kepB (nats (reaS m)) i = true := by
   unfold kepB
   rw [nats_getD, nats_getD]
   cases i with
   | zero => simp
   | succ j =>
    have := reaS_inc m j hi
    simp only [Nat.add_sub_cancel, Bool.or_eq_true, decide_eq_true_eq]
    right; omega
  rw [h1, h2]; rfl
 unfold kepE
 rw [if_neg (by rw [hF]; simp), nats_getD, Int.toNat_natCast, if_neg (by rw [rea_safe hm hv 64 (Nat.le_refl _) _ hra]; simp)]
 unfold kmsE
 refine firstErr_all0 _ (fun x hx => ?_)
 obtain ⟨c, hc, rfl⟩ := List.mem_map.1 hx
 obtain ⟨h1, h2⟩ := rea_closed hm hv hra c hc
 unfold kmE
 rw [h1, nats_any, decide_eq_true ((reaS_mem hm).2 h2)]
 rfl
theorem inv_ok {m : Mac} {l : Lim} (hm : MacV m) (hv : faiV m l = none) : invX m l (nats (reaS m)) = (0, 0) := by
 have hs := hm.st
 have h1 : m.st = ((m.st.toNat : Nat) : Int) := by omega
 unfold invX
 rw [nats_len, firstAt_all _ _ (fun j _ hj => inv_kept hm hv j (by omega))]
 rw [if_neg (by simp)]
 rw [h1, nats_any, decide_eq_true ((reaS_mem hm).2 (reaF_ok hm 64).st)]
 rfl
theorem invX_hit {m : Mac} {l : Lim} {L : List Int} {k : Nat} (hk : k < L.length) (h0 : ∀ j, j < k → kepE m l L j = 0) (h : kepE m l L k ≠ 0) : invX m l L = ((k : Int), kepE m l L k) := by
 unfold invX
 rw [firstAt_hitN h L.length 0 (by omega) (by omega) (fun i _ hi => h0 i hi), if_pos (by exact h)]
theorem invX_end {m : Mac} {l : Lim} {L : List Int} (h0 : ∀ j, j < L.length → kepE m l L j = 0) : invX m l L = (0, unl (L.any (fun q : Int => decide (m.st = q))) 6) := by
 unfold invX
 rw [firstAt_all _ _ (fun j _ hj => h0 j (by omega)), if_neg (by simp)]
/- Invariants: the program. -/
open Go.RowKit Go.Shelf
set_option linter.unusedSimpArgs false
def cinX (m : Mac) (l : Lim) (L : List Int) : Int × Int := if opnE m l ≠ 0 then (0, opnE m l) else invX m l L
set_option maxHeartbeats 4000000 in
set_option maxRecDepth 100000 in
theorem checkInvariant_any (m : Mac) (l : Lim) (L : List Int) (ac ab ag : Option Addr) (n cc nb cb ng cg : Nat) (w : World) (hb : BrR w ab nb m.br) (hg : GrR w ag ng m.gs) (hc : IntsR w ac n L) (hn : n ≤ 100) :
    Calls Tryz.prog 17 #[.agg #[.slice ab nb cb, .int .i64 m.st, .slice ag ng cg], .agg #[.int .i64 l.volt, .int .i64 l.lo, .int .i64 l.hi, .int .i64 l.circ, .int .i64 l.brk, .int .i64 l.ret], .slice ac n cc] w
     fun e' w' => e' = .returned (.tuple #[.int .i64 (cinX m l L).1, .int .i64 (cinX m l L).2]) ∧ Below w.heap.size w w' := by
 have HO := Lib.hid (fun (W : World) (hbw : Below w.heap.size w W) => open_any m l ab ag nb cb ng cg W (hb.below hbw) (hg.below hbw))
 have HKE := Lib.hid (fun (h : opnE m l = 0) (k : Nat) (hk : k < n) (W : World) (hbw : Below w.heap.size w W) => keeps_any m l L k ac ab ag n cc nb cb ng cg W (opnE_zero h).1 (opnE_zero h).2 (hb.below hbw) (hg.below hbw) (hc.below hbw) hk hn)
 have HCN := Lib.hid (fun (W : World) (hbw : Below w.heap.size w W) => cntContains_any m.st L ac n cc W (hc.below hbw))
 have HHI := Lib.hid (fun (k : Nat) (hk : k < n) (h0 : ∀ j, j < k → kepE m l L j = 0) (h : kepE m l L k ≠ 0) => invX_hit (by rw [hc.len]; exact hk) h0 h)
 have HEN := Lib.hid (fun (h0 : ∀ j, j < n → kepE m l L j = 0) => invX_end (by rw [hc.len]; exact h0))
 have hV : cinX m l L = if opnE m l ≠ 0 then (0, opnE m l) else invX m l L := rfl
 rw [show firstErr [(macE m).2, limE l] = opnE m l from rfl] at HO
 generalize cinX m l L = V at *
 generalize opnE m l = E at *
 generalize invX m l L = IX at *
 generalize kepE m l L = KE at *
 have HV := Lib.hid hV
 obtain ⟨vo, lo, hi, ci, br, re⟩ := l
 obtain ⟨st, hst⟩ : ∃ x, x = m.st := ⟨_, rfl⟩
 rw [← hst] at HO HKE HCN HEN ⊢
 simp only at HO HKE ⊢
 generalize L.any (fun q : Int => decide (st = q)) = HA at *
 clear hb hg hst hV hc
 go_enter Tryz.func17, Tryz.ntmps17
 go_upto_region 1 with (fail)
 obtain ⟨w2, hW2⟩ : ∃ w2, w2 = (w.alloc (Obj.cells #[.slice ab nb cb, .int .i64 st, .slice ag ng cg] 45)).alloc (Obj.cells #[.int .i64 vo, .int .i64 lo, .int .i64 hi, .int .i64 ci, .int .i64 br, .int .i64 re] 47) := ⟨_, rfl⟩
 obtain ⟨hb2, k3, k4⟩ := alA2 w (Obj.cells #[.slice ab nb cb, .int .i64 st, .slice ag ng cg] 45) (Obj.cells #[.int .i64 vo, .int .i64 lo, .int .i64 hi, .int .i64 ci, .int .i64 br, .int .i64 re] 47)
 rw [← hW2] at hb2 k3 k4
 rw [← hW2]
 obtain ⟨X3, hX3⟩ : ∃ X, X = w.heap.size := ⟨_, rfl⟩
 obtain ⟨X4, hX4⟩ : ∃ X, X = w.heap.size + 1 := ⟨_, rfl⟩
 rw [← hX3] at k3
 rw [← hX4] at k4
 simp only [← hX4]
 simp only [← hX3]
 obtain ⟨c3, c3_1, c3_2, l3⟩ := blkc3 k3
 obtain ⟨c4, c4_1, c4_2, c4_3, c4_4, c4_5, l4⟩ := blkc6 k4
 have K3 := Lib.hid k3
 have HB2 := Lib.hid hb2
 clear hW2 hX3 hX4 hb2 k3 k4
 go_wp2_with fail
 refine (HO.out _ HB2.out).mono ?_
 rintro e5 w5 ⟨rfl, hb5⟩
 have HB5 := bwt HB2 hb5
 have K3 := Lib.hid (K3.out.below hb5)
 clear hb5 HO HB2 c3 c3_1 c3_2 l3 c4 c4_1 c4_2 c4_3 c4_4 c4_5 l4
 go_upto_region 2 with (fail)
 obtain ⟨w6, hW⟩ : ∃ w6, w6 = w5.alloc (Obj.cells #[.slice ab nb cb, .int .i64 st, .slice ag ng cg, .int .i64 vo, .int .i64 lo, .int .i64 hi, .int .i64 ci, .int .i64 br, .int .i64 re] 100) := ⟨_, rfl⟩
 obtain ⟨hb6, k8⟩ := alA1 w5 (Obj.cells #[.slice ab nb cb, .int .i64 st, .slice ag ng cg, .int .i64 vo, .int .i64 lo, .int .i64 hi, .int .i64 ci, .int .i64 br, .int .i64 re] 100)
 rw [← hW] at hb6 k8
 rw [← hW]
 obtain ⟨X8, hX8⟩ : ∃ X, X = w5.heap.size := ⟨_, rfl⟩
 rw [← hX8] at k8
 simp only [← hX8]
 have HB6 := bwt HB5 hb6
 have K3 := Lib.hid (K3.out.below hb6)
 have K8 := Lib.hid k8
 clear hW hX8 hb6 k8 HB5
 by_cases h0 : E = 0
 rotate_left
 ·have hV := HV.out
  rw [if_pos h0] at hV
  have e1 := bne_iff_ne.2 h0
  clear h0 HKE HHI HEN HCN
  go_wp2
  go_ret2
  exact ⟨by rw [hV]; rfl, HB6.out⟩
 subst h0
 have HV := Lib.hid (HV.out.trans (if_neg (by simp)))
 have HKE1 := Lib.hid (HKE.out rfl)
 clear HKE
 go_wp2_with fail
 go_loopw [9, 10, 22] (fun v9 v10 v22 wr => ∃ k : Nat, v22 = .int .i64 (k : Int) ∧ v9 = .int .i64 0 ∧ k ≤ n ∧ Hid (∀ j, j < k → KE j = 0) ∧ Hid (BlkR wr X3 (.cells #[.slice ab nb cb, .int .i64 st, .slice ag ng cg] 45)) ∧ Hid (BlkR wr X8 (.cells #[.slice ab nb cb, .int .i64 st, .slice ag ng cg, .int .i64 vo, .int .i64 lo, .int .i64 hi, .int .i64 ci, .int .i64 br, .int .i64 re] 100)) ∧ Hid (Below w.heap.size w wr)) (fun _ _ x _ => n - (intOf x).toNat)
 case atStart => exact ⟨0, rfl, rfl, Nat.zero_le _, Lib.hid (fun j h => absurd h (by omega)), K3, K8, HB6⟩
 case round =>
  clear K3 K8 HB6
  obtain ⟨k, rfl, rfl, hk, HK0, K3, K8, HB⟩ := hrel
  have i0 : (0 : Int) ≤ (k : Int) := by omega
  by_cases hlt : k < n
  ·have i1 : (k : Int) < (n : Int) := by omega
   obtain ⟨c8, c8_1, c8_2, c8_3, c8_4, c8_5, c8_6, c8_7, c8_8, l8⟩ := blkc9 K8.out
   go_wp2_with fail
   refine (HKE1.out k hlt _ HB.out).mono ?_
   rintro e7 w7 ⟨rfl, hb7⟩
   have HB := bwt HB hb7
   have K3 := Lib.hid (K3.out.below hb7)
   have K8 := Lib.hid (K8.out.below hb7)
   clear hb7 c8 c8_1 c8_2 c8_3 c8_4 c8_5 c8_6 c8_7 c8_8 l8
   have HHk := Lib.hid (fun h => HHI.out k hlt HK0.out h)
   have HKS := Lib.hid (fun (h : KE k = 0) => show ∀ j, j < k + 1 → KE j = 0 from fun j hj => by
    by_cases hjk : j = k
    ·subst hjk; exact h
    ·exact HK0.out j (by omega))
   generalize hKK : KE k = KK at *
   by_cases hz : KK = 0
   ·subst hz
    go_wp2
    refine ⟨⟨k + 1, by go_num, by first | rfl | trivial, by omega, Lib.hid (HKS.out (by first | rfl | trivial)), K3, K8, HB⟩, ?_⟩
    simp only [intOf]; omega
   ·have e1 := bne_iff_ne.2 hz
    have hX := HHk.out hz
    have hV := HV.out
    clear hKK hz HHk HKS HKE1 HHI HEN HCN
    go_wp2
    go_ret2
    exact ⟨by rw [hV, hX]; rfl, HB.out⟩
  ·obtain rfl : k = n := by omega
   have hE := HEN.out HK0.out
   have hV := HV.out
   obtain ⟨c3, c3_1, c3_2, l3⟩ := blkc3 K3.out
   clear HKE1 HHI HEN
   go_wp2_with fail
   refine (HCN.out _ HB.out).mono ?_
   rintro e7 w7 ⟨rfl, rfl⟩
   go_wp2_with fail
   refine (t_unless_any _ _ _).mono ?_
   rintro e8 w8 ⟨rfl, rfl⟩
   go_wp2
   go_ret2
   exact ⟨by rw [hV, hE]; rfl, HB.out⟩
/- Regulators, moments and pairs, in plain words. No program in sight. -/
structure Reg where
 tgt : Int
 band : Int
 dly : Int
 stp : Int
 lo : Int
 hi : Int
deriving DecidableEq
structure Mom where
 tap : Int
 wait : Int
deriving DecidableEq
def regB (r : Reg) : Bool := wi r.tgt (-10000) 10000 && wi r.band 0 10000 && wi r.dly 1 20 && wi r.stp 1 10000 && wi r.lo (-40) 40 && wi r.hi (-40) 40
def regE (r : Reg) : Int := firstErr [unl (regB r) 2, unl (decide (r.lo ≤ r.hi)) 9]
def momE (r : Reg) (m : Mom) : Int := unl (wi m.tap r.lo r.hi && wi m.wait (1 - r.dly) (r.dly - 1)) 2
def swE (d : Int) : Int := unl (wi d (-10000) 10000) 2
theorem unl_zero' {b : Bool} {e : Int} (he : e ≠ 0) : unl b e = 0 ↔ b = true := by
 unfold unl; cases b <;> simp [he]
theorem firstErr_zero' {x : Int} {r : List Int} : firstErr (x :: r) = 0 ↔ x = 0 ∧ firstErr r = 0 := by
 show (if x = 0 then firstErr r else x) = 0 ↔ _
 split
 ·next h => simp [h]
 ·next h => simp [h]
structure RegV (r : Reg) : Prop where
 t0 : -10000 ≤ r.tgt
 t1 : r.tgt ≤ 10000
 b0 : 0 ≤ r.band
 b1 : r.band ≤ 10000
 d0 : 1 ≤ r.dly
 d1 : r.dly ≤ 20
 s0 : 1 ≤ r.stp
 s1 : r.stp ≤ 10000
 l0 : -40 ≤ r.lo
 l1 : r.lo ≤ r.hi
 h1 : r.hi ≤ 40
def MomV (r : Reg) (m : Mom) : Prop := (r.lo ≤ m.tap ∧ m.tap ≤ r.hi) ∧ 1 - r.dly ≤ m.wait ∧ m.wait ≤ r.dly - 1
theorem regE_zero {r : Reg} : regE r = 0 ↔ RegV r := by
 unfold regE regB
 rw [firstErr_zero', firstErr_zero', unl_zero' (by decide), unl_zero' (by decide)]
 simp only [Bool.and_eq_true, wi_iff, decide_eq_true_eq]
 constructor
 ·rintro ⟨⟨⟨⟨⟨⟨a, b⟩, c⟩, d⟩, e⟩, f⟩, g, _⟩
  exact ⟨a.1, a.2, b.1, b.2, c.1, c.2, d.1, d.2, e.1, g, f.2⟩
 ·intro h
  exact ⟨⟨⟨⟨⟨⟨⟨h.t0, h.t1⟩, h.b0, h.b1⟩, h.d0, h.d1⟩, h.s0, h.s1⟩, h.l0, by have := h.l1; have := h.h1; omega⟩, by have := h.l0; have := h.l1; omega, h.h1⟩, h.l1, rfl⟩
theorem momE_zero {r : Reg} {m : Mom} : momE r m = 0 ↔ MomV r m := by
 unfold momE MomV
 rw [unl_zero' (by decide)]
 simp only [Bool.and_eq_true, wi_iff]
theorem swE_zero {d : Int} : swE d = 0 ↔ -10000 ≤ d ∧ d ≤ 10000 := by
 unfold swE
 rw [unl_zero' (by decide), wi_iff]
def act (r : Reg) (m : Mom) (v : Int) : Mom :=
 if r.tgt - r.band ≤ v ∧ v ≤ r.tgt + r.band then ⟨m.tap, 0⟩
 else if v < r.tgt then (if -r.dly < min m.wait 0 - 1 then ⟨m.tap, min m.wait 0 - 1⟩ else ⟨min (m.tap + 1) r.hi, 0⟩)
 else (if max m.wait 0 + 1 < r.dly then ⟨m.tap, max m.wait 0 + 1⟩ else ⟨max (m.tap - 1) r.lo, 0⟩)
theorem act_valid {r : Reg} (hr : RegV r) {m : Mom} (hm : MomV r m) (v : Int) : MomV r (act r m v) := by
 obtain ⟨⟨h1, h2⟩, h3, h4⟩ := hm
 have := hr.d0
 have := hr.l1
 unfold act MomV
 split
 ·exact ⟨⟨h1, h2⟩, by simp only; omega, by simp only; omega⟩
 ·split
  ·split
   ·exact ⟨⟨h1, h2⟩, by simp only; omega, by simp only; omega⟩
   ·exact ⟨⟨by simp only; omega, by simp only; omega⟩, by simp only; omega, by simp only; omega⟩
  ·split
   ·exact ⟨⟨h1, h2⟩, by simp only; omega, by simp only; omega⟩
   ·exact ⟨⟨by simp only; omega, by simp only; omega⟩, by simp only; omega, by simp only; omega⟩
def vol (r : Reg) (d t : Int) : Int := d + r.stp * t
def tick (r : Reg) (d : Int) (m : Mom) : Mom := act r m (vol r d m.tap)
theorem tick_valid {r : Reg} (hr : RegV r) (d : Int) (m : Mom) (hm : MomV r m) : MomV r (tick r d m) := act_valid hr hm _
def mvT (r : Reg) (d : Int) (m : Mom) : Bool := decide (m.tap ≠ (tick r d m).tap)
def codeM (m : Mom) : Nat := ((m.tap + 40) * 40 + (m.wait + 19)).toNat
theorem codeM_lt {r : Reg} (hr : RegV r) (m : Mom) (h : MomV r m) : codeM m < 3240 := by
 obtain ⟨⟨h1, h2⟩, h3, h4⟩ := h
 have := hr.l0
 have := hr.h1
 have := hr.d1
 unfold codeM
 omega
theorem codeM_inj {r : Reg} (hr : RegV r) (a b : Mom) (ha : MomV r a) (hb : MomV r b) (h : codeM a = codeM b) : a = b := by
 obtain ⟨⟨h1, h2⟩, h3, h4⟩ := ha
 obtain ⟨⟨g1, g2⟩, g3, g4⟩ := hb
 have := hr.l0
 have := hr.h1
 have := hr.d1
 unfold codeM at h
 cases a; cases b
 simp only [Mom.mk.injEq] at *
 omega
theorem tick_bound {r : Reg} (hr : RegV r) {d : Int} {m : Mom} (hm : MomV r m) {T : Nat} (h : ∀ i j, i < j → j < T → itr (tick r d) m i ≠ itr (tick r d) m j) : T ≤ 3240 :=
 rep_bound (p := MomV r) codeM (tick_valid hr d) hm (codeM_lt hr) (codeM_inj hr) h
structure Pai where
 a : Reg
 b : Reg
 ma : Mom
 mb : Mom
deriving DecidableEq
def volP (p : Pai) (d : Int) : Int := d + (p.a.stp * p.ma.tap + p.b.stp * p.mb.tap) / 2
def tickP (d : Int) (p : Pai) : Pai := ⟨p.a, p.b, act p.a p.ma (volP p d), act p.b p.mb (volP p d)⟩
def PaiV (p : Pai) : Prop := RegV p.a ∧ RegV p.b ∧ MomV p.a p.ma ∧ MomV p.b p.mb
theorem tickP_valid (d : Int) (p : Pai) (h : PaiV p) : PaiV (tickP d p) := ⟨h.1, h.2.1, act_valid h.1 h.2.2.1 _, act_valid h.2.1 h.2.2.2 _⟩
def mvP (d : Int) (p : Pai) : Bool := decide (p.ma.tap ≠ (tickP d p).ma.tap) || decide (p.mb.tap ≠ (tickP d p).mb.tap)
theorem tickP_bound {d : Int} {p : Pai} (hp : PaiV p) {T : Nat} (h : ∀ i j, i < j → j < T → itr (tickP d) p i ≠ itr (tickP d) p j) : T ≤ 10497600 := by
 refine rep_bound (f := tickP d) (p := fun q => (q.a = p.a ∧ q.b = p.b) ∧ PaiV q) (fun q => codeM q.ma * 3240 + codeM q.mb) (fun q hq => ⟨hq.1, tickP_valid d q hq.2⟩) ⟨⟨rfl, rfl⟩, hp⟩ (fun q hq => ?_) (fun x y hx hy he => ?_) h
 ·have h1 := codeM_lt hq.2.1 q.ma hq.2.2.2.1
  have h2 := codeM_lt hq.2.2.1 q.mb hq.2.2.2.2
  omega
 ·have h1 := codeM_lt hx.2.1 x.ma hx.2.2.2.1
  have h2 := codeM_lt hx.2.2.1 x.mb hx.2.2.2.2
  have h3 := codeM_lt hy.2.1 y.ma hy.2.2.2.1
  have h4 := codeM_lt hy.2.2.1 y.mb hy.2.2.2.2
  have e1 : codeM x.ma = codeM y.ma := by omega
  have e2 : codeM x.mb = codeM y.mb := by omega
  have g1 : x.ma = y.ma := codeM_inj hx.2.1 _ _ hx.2.2.2.1 (by have := hy.2.2.2.1; rw [hy.1.1, ← hx.1.1] at this; exact this) e1
  have g2 : x.mb = y.mb := codeM_inj hx.2.2.1 _ _ hx.2.2.2.2 (by have := hy.2.2.2.2; rw [hy.1.2, ← hx.1.2] at this; exact this) e2
  obtain ⟨⟨a1, a2⟩, _⟩ := hx
  obtain ⟨⟨b1, b2⟩, _⟩ := hy
  cases x; cases y
  simp only at *
  subst g1 g2
  rw [a1, a2, b1, b2]
end Go.Proofs.YtdjinmieogpgcaaGreat
