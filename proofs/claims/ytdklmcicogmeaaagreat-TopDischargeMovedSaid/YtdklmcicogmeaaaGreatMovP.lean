import Derived.Test.YtdklmcicogmeaaaGreatMDRespX
/- What the transport changed is among the explanations: in plain words. No program in sight. -/
namespace Go.Proofs.YtdklmcicogmeaaaGreat
set_option linter.unusedVariables false

theorem ask_own {s l : List T3} {fs : List Int} {s' : List T3} (h1 : (netE s).2 = 0) (h2 : defsE s.length l = 0) (h3 : freE fs = 0) (h4 : (netE s').2 = 0) : askE s l fs (fs.map (gPr s')) = 0 := by
  unfold askE
  rw [h1, h2, h3, respsE_gPr h4 h3]
  simp [firstErr, unl]
theorem ext_one : ∀ m, m ≤ 6 → (ext m 1 0).length ≤ 6 := by decide +kernel
theorem exp_none {s l : List T3} {fs : List Int} (h : (netE s).2 = 0) : expB s l fs (fs.map (gPr s)) (nats []) = true := by
  unfold expB
  have : dfm s (pick l (nats [])) = s := rfl
  rw [this, h]
  simp
/-- Without a change the empty set is the only explanation. -/
theorem xpl_none {s l : List T3} {fs : List Int} (h1 : (netE s).2 = 0) (h2 : defsE s.length l = 0) (h3 : freE fs = 0) : xplE s l fs (fs.map (gPr s)) = ([[]], 0) := by
  unfold xplE
  rw [if_neg (by rw [ask_own h1 h2 h3 h1]; decide)]
  show xpS _ l.length (l.length + 1) 0 = _
  unfold xpS
  have he : (ext l.length 0 0).filter (fun S => expB s l fs (fs.map (gPr s)) (nats S)) = [[]] := by
    show List.filter _ [[]] = [[]]
    rw [List.filter_cons, if_pos (exp_none h1)]; rfl
  rw [he, if_pos (by simp)]
theorem one_ext {m k : Nat} (h : k < m) : [k] ∈ ext m 1 0 := (ext_mem _ _ _ _).2 ⟨rfl, List.pairwise_singleton _ _, fun x hx => by rw [List.mem_singleton.1 hx]; exact ⟨Nat.zero_le _, h⟩⟩
theorem exp_one {s l : List T3} {fs : List Int} {k : Nat} (h4 : (netE (dfm s [pAt l k])).2 = 0) : expB s l fs (fs.map (gPr (dfm s [pAt l k]))) (nats [k]) = true := by
  unfold expB
  have : pick l (nats [k]) = [pAt l k] := by simp [pick, nats]
  rw [this, h4]
  simp
/-- With one change there is an explanation, none has more than one change, and the change itself (or nothing) is one. -/
theorem xpl_one {s l : List T3} {fs : List Int} {k : Nat} (h1 : (netE s).2 = 0) (h2 : defsE s.length l = 0) (h3 : freE fs = 0) (hk : k < l.length) (h4 : (netE (dfm s [pAt l k])).2 = 0) :
    ∃ LL, xplE s l fs (fs.map (gPr (dfm s [pAt l k]))) = (LL, 0) ∧ 1 ≤ LL.length ∧ LL.length ≤ 6 ∧ (∀ S ∈ LL, S.length ≤ 1) ∧ ([] ∈ LL ∨ [k] ∈ LL) := by
  have hm6 := (defsE_zero h2).1
  obtain ⟨p, hp⟩ : ∃ p : List Nat → Bool, p = fun S => expB s l fs (fs.map (gPr (dfm s [pAt l k]))) (nats S) := ⟨_, rfl⟩
  have hpk : p [k] = true := by rw [hp]; exact exp_one h4
  have hx : xplE s l fs (fs.map (gPr (dfm s [pAt l k]))) = xpS p l.length (l.length + 1) 0 := by
    unfold xplE
    rw [if_neg (by rw [ask_own h1 h2 h3 h4]; decide), hp]
  obtain ⟨j, _, hj1, hj2, hj3⟩ := xpS_found (p := p) (l.length + 1) 0 1 [k] (one_ext hk) hpk (Nat.zero_le _) (by omega)
  refine ⟨_, hx.trans hj2, ?_, ?_, fun S hS => ?_, ?_⟩
  · exact Nat.pos_of_ne_zero (fun h => hj3 (List.eq_nil_of_length_eq_zero h))
  · have hf := List.length_filter_le p (ext l.length j 0)
    rcases Nat.lt_or_ge j 1 with h | h
    · obtain rfl : j = 0 := by omega
      exact Nat.le_trans hf (by show [([] : List Nat)].length ≤ 6; decide)
    · obtain rfl : j = 1 := by omega
      exact Nat.le_trans hf (ext_one _ hm6)
  · have := ((ext_mem _ _ _ _).1 ((List.mem_filter.1 hS).1)).1
    omega
  · rcases Nat.lt_or_ge j 1 with h | h
    · obtain rfl : j = 0 := by omega
      left
      have h0 : (ext l.length 0 0) = [[]] := rfl
      rw [h0] at hj3 ⊢
      by_cases hp0 : p [] = true
      · exact List.mem_filter.2 ⟨by simp, hp0⟩
      · exact absurd (by simp [hp0]) hj3
    · obtain rfl : j = 1 := by omega
      right
      exact List.mem_filter.2 ⟨one_ext hk, hpk⟩
theorem difB_one (p q : Int × Int) : difB 1 1 p q = decide (nrm p ≠ nrm q) := by
  unfold difB
  rw [Bool.eq_iff_iff, Bool.or_eq_true, decide_eq_true_eq, decide_eq_true_eq, decide_eq_true_eq]
  omega
theorem difL_one (l m : List (Int × Int)) : difL 1 1 l m = (List.range l.length).filter (fun i => decide (nrm (l.getD i (0, 0)) ≠ nrm (m.getD i (0, 0)))) := by
  unfold difL
  congr 1
  funext i
  exact difB_one _ _
theorem difL_self (l : List (Int × Int)) : difL 1 1 l l = [] := by
  rw [difL_one, List.filter_eq_nil_iff]
  intro i _
  simp
theorem difE_one {l m : List (Int × Int)} (h1 : respsE l = 0) (h2 : respsE m = 0) (h3 : l.length = m.length) : difE 1 1 l m = 0 := by
  unfold difE
  rw [h1, h2, h3]
  have e1 : isLow 1 1 = true := by decide +kernel
  have e2 : isPo 1 1 100 = true := by decide +kernel
  rw [e1, e2]
  simp [firstErr, unl]
end Go.Proofs.YtdklmcicogmeaaaGreat
