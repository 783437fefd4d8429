import Derived.Test.YthkekjgdknnaiaaGreatDXpl
import Derived.Test.YthkekjgdknnaiaaGreatRMeas
/- Sets of bits, the lexicographic order, all explanations: the reference's functions. -/
namespace Go.Proofs.YthkekjgdknnaiaaGreat
open Go.RowKit
set_option linter.unusedVariables false

theorem bef_step {S T : List Nat} {k : Nat} (h1 : k < S.length) (h2 : k < T.length) : bef (S.drop k) (T.drop k) = if S.getD k 0 = T.getD k 0 then bef (S.drop (k + 1)) (T.drop (k + 1)) else decide (S.getD k 0 < T.getD k 0) := by
  rw [List.drop_eq_getElem_cons h1, List.drop_eq_getElem_cons h2]
  rw [List.getD_eq_getElem?_getD, List.getElem?_eq_getElem h1, List.getD_eq_getElem?_getD, List.getElem?_eq_getElem h2]
  rfl
theorem bef_end {S T : List Nat} {k : Nat} (h1 : k ≤ S.length) (h2 : k ≤ T.length) (h : k = S.length ∨ k = T.length) : bef (S.drop k) (T.drop k) = decide (S.length < T.length) := by
  by_cases hs : k = S.length
  · subst hs
    rw [List.drop_length]
    by_cases ht : S.length = T.length
    · rw [ht, List.drop_length, decide_eq_false (by omega)]; rfl
    · rw [List.drop_eq_getElem_cons (show S.length < T.length by omega), decide_eq_true (by omega)]; rfl
  · obtain rfl : k = T.length := by omega
    rw [List.drop_length, List.drop_eq_getElem_cons (show T.length < S.length by omega), decide_eq_false (by omega)]; rfl
theorem nats_getD {S : List Nat} {k : Nat} (h : k < S.length) : (nats S).getD k 0 = ((S.getD k 0 : Nat) : Int) := by
  unfold nats
  rw [List.getD_eq_getElem?_getD, List.getElem?_map, List.getElem?_eq_getElem h, List.getD_eq_getElem?_getD, List.getElem?_eq_getElem h]
  rfl
theorem IntsR.cellX {w : World} {b o : Nat} {n : Nat} {l : List Int} (h : IntsR w (some ⟨b, o, none⟩) n l) {k : Nat} (hk : k < n) : w.cell? ⟨b, o + k, none⟩ = some (.int .i64 (l.getD k 0)) := by
  have hl := h.len
  obtain ⟨b', o', e, _, hc⟩ := h.2.2 (by omega)
  simp only [Option.some.injEq, Addr.mk.injEq] at e
  obtain ⟨rfl, rfl, _⟩ := e
  refine hc k _ ?_
  unfold icells
  rw [List.getElem?_map, List.getD_eq_getElem?_getD, List.getElem?_eq_getElem (by omega)]
  rfl
theorem IntsR.blockX {w : World} {a : Option Addr} {n : Nat} {l : List Int} (h : IntsR w a n l) (hn : 0 < n) : ∃ b o, a = some ⟨b, o, none⟩ ∧ b < w.heap.size := by
  obtain ⟨b, o, e, hb, _⟩ := h.2.2 hn
  exact ⟨b, o, e, hb⟩
set_option maxHeartbeats 1000000 in
set_option maxRecDepth 100000 in
theorem before_any (S T : List Nat) (a1 a2 : Option Addr) (n1 c1 n2 c2 : Nat) (w : World) (h1 : IntsR w a1 n1 (nats S)) (h2 : IntsR w a2 n2 (nats T)) :
    Calls Tryz.prog 90 #[.slice a1 n1 c1, .slice a2 n2 c2] w fun e' w' => e' = .returned (.bool (bef S T)) ∧ ∃ m, w' = w.drewN m := by
  have H1 := Lib.hid h1
  have H2 := Lib.hid h2
  have hn1 := h1.small
  have hn2 := h2.small
  have L1 : S.length = n1 := by have := h1.len; simpa [nats] using this
  have L2 : T.length = n2 := by have := h2.len; simpa [nats] using this
  have HL := Lib.hid (And.intro L1 L2)
  obtain ⟨V, hV⟩ : ∃ V, V = bef S T := ⟨_, rfl⟩
  have HV := Lib.hid hV
  rw [← hV]
  clear h1 h2 L1 L2 hV
  go_enter Tryz.func90, Tryz.ntmps90
  go_wp2_with fail
  go_loopw [5] (fun i wr => ∃ k : Nat, i = .int .i64 k ∧ k ≤ n1 ∧ k ≤ n2 ∧ Hid (V = bef (S.drop k) (T.drop k)) ∧ ∃ m, wr = w.drewN m) (fun i _ => n1 - (intOf i).toNat)
  case atStart => exact ⟨0, rfl, Nat.zero_le _, Nat.zero_le _, HV, 0, rfl⟩
  case round =>
    obtain ⟨k, rfl, hk1, hk2, hF, m, rfl⟩ := hrel
    have i0 : (0 : Int) ≤ (k : Int) := by omega
    by_cases hlt1 : k < n1
    · by_cases hlt2 : k < n2
      · have i1 : (k : Int) < (n1 : Int) := by omega
        have i2 : (k : Int) < (n2 : Int) := by omega
        obtain ⟨b1, o1, rfl, hb1⟩ := H1.out.blockX (by omega)
        obtain ⟨b2, o2, rfl, hb2⟩ := H2.out.blockX (by omega)
        have c1 := H1.out.cellX hlt1
        have c2 := H2.out.cellX hlt2
        have hF' := hF.out
        rw [bef_step (by have := HL.out; omega) (by have := HL.out; omega)] at hF'
        rw [nats_getD (by have := HL.out; omega)] at c1 c2
        generalize S.getD k 0 = x at *
        generalize T.getD k 0 = y at *
        by_cases hxy : x = y
        · subst hxy
          rw [if_pos rfl] at hF'
          have hF := Lib.hid hF'
          clear hF'
          go_wp2_with fail
          go_quiet (fail)
          go_wp2
          go_roundw
          case rel => exact ⟨k + 1, by go_num, by omega, by omega, hF, _, rfl⟩
          case measure => simp [intOf]; omega
        · rw [if_neg hxy] at hF'
          have HV := Lib.hid hF'
          have e1 : (((x : Int)) != (y : Int)) = true := by simp; omega
          clear hF' hF
          go_wp2_with fail
          go_quiet (fail)
          go_wp2_with fail
          go_quiet (fail)
          go_wp2
          go_ret
          exact ⟨ret_bool (by rw [HV.out]), _, by rw [World.drewN_drewN, World.drewN_drewN]⟩
      · have i2 : ¬ (k : Int) < (n2 : Int) := by omega
        have HV := Lib.hid (hF.out.trans (bef_end (by have := HL.out; omega) (by have := HL.out; omega) (by right; have := HL.out; omega)))
        clear hF
        go_wp2
        go_ret
        exact ⟨ret_bool (by rw [HV.out, HL.out.1, HL.out.2]), _, rfl⟩
    · have i1 : ¬ (k : Int) < (n1 : Int) := by omega
      have HV := Lib.hid (hF.out.trans (bef_end (by have := HL.out; omega) (by have := HL.out; omega) (by left; have := HL.out; omega)))
      clear hF
      go_wp2
      go_ret
      exact ⟨ret_bool (by rw [HV.out, HL.out.1, HL.out.2]), _, rfl⟩
theorem memB_next {f i N : Nat} (h : N ≠ 0) : memB (f + 1) i N = if N % 2 = 1 then i :: memB f (i + 1) (N / 2) else memB f (i + 1) (N / 2) := by
  rw [memB, if_neg h]
theorem memB_zero : ∀ f i, memB f i 0 = []
  | 0, _ => rfl
  | f + 1, i => by rw [memB, if_pos rfl]
theorem nats_snoc (A : List Nat) (i : Nat) : icells (nats (A ++ [i])) = icells (nats A) ++ [.int .i64 (i : Int)] := by
  simp [nats, icells]
set_option maxHeartbeats 1000000 in
set_option maxRecDepth 100000 in
theorem members_any (f N : Nat) (w : World) (hf : f ≤ 30) (hN : N < 2 ^ f) :
    Calls Tryz.prog 89 #[.int .i64 (N : Int)] w fun e' w' => ∃ a' k' c', e' = .returned (.slice a' k' c') ∧ Below w.heap.size w w' ∧ w'.ownsRow w.heap.size 3 1 (.slice a' k' c') k' (icells (nats (memB f 0 N))) := by
  obtain ⟨V, hV⟩ : ∃ V, V = memB f 0 N := ⟨_, rfl⟩
  have HV := Lib.hid hV
  rw [← hV]
  clear hV
  have hNb : N < 2 ^ 30 := Nat.lt_of_lt_of_le hN (Nat.pow_le_pow_right (by omega) hf)
  have HN := Lib.hid hN
  clear hN
  go_enter Tryz.func89, Tryz.ntmps89
  go_wp2_with fail
  go_loopw [0, 3, 4] (fun x v i wr => ∃ (j M k : Nat) (A : List Nat) (av : Option Addr) (cv : Nat), x = .int .i64 (M : Int) ∧ i = .int .i64 (j : Int) ∧ v = .slice av k cv ∧ j ≤ f ∧ k ≤ j ∧ M < 2 ^ 30 ∧ Hid (M < 2 ^ (f - j)) ∧ Hid (V = A ++ memB (f - j) j M) ∧ Hid (wr.ownsRow w.heap.size 3 1 (.slice av k cv) k (icells (nats A))) ∧ Hid (Below w.heap.size w wr)) (fun x _ _ _ => (intOf x).toNat)
  case atStart => exact ⟨0, N, 0, [], none, 0, rfl, rfl, rfl, Nat.zero_le _, Nat.le_refl _, hNb, HN, HV, Lib.hid (World.ownsRow_nil _ _ _ _), Lib.hid (Below.refl _ _)⟩
  case round =>
    obtain ⟨j, M, k, A, av, cv, rfl, rfl, rfl, hj, hk, hM, hMf, hF, hO, hB⟩ := hrel
    by_cases h0 : M = 0
    · subst h0
      have hF' := hF.out
      rw [memB_zero, List.append_nil] at hF'
      have HF := Lib.hid hF'
      clear hF hF'
      go_wp2
      go_ret
      exact ⟨av, k, cv, rfl, hB.out, by rw [HF.out]; exact hO.out⟩
    · have hp : 0 < M := by omega
      have hjf : j < f := by
        rcases Nat.lt_or_ge j f with h | h
        · exact h
        · have := hMf.out
          rw [show f - j = 0 by omega] at this
          simp at this; omega
      have hF' := hF.out
      have hM' := hMf.out
      rw [show f - j = (f - (j + 1)) + 1 by omega] at hF' hM'
      rw [memB_next h0] at hF'
      have HM2 := Lib.hid (show M / 2 < 2 ^ (f - (j + 1)) by rw [Nat.pow_succ] at hM'; omega)
      have w2 : IntKind.i64.wrap ((j : Int) + 1) = ((j + 1 : Nat) : Int) := by rw [IntKind.wrap_i64]; omega
      have hMi : (0 : Int) ≤ (M : Int) := by omega
      have hzr := hB.out.size
      by_cases hodd : M % 2 = 1
      · rw [if_pos hodd] at hF'
        have HF := Lib.hid (show V = (A ++ [j]) ++ memB (f - (j + 1)) (j + 1) (M / 2) by rw [hF']; simp)
        have HT := Lib.hid (nats_snoc A j)
        have w1' : (M : Int).tmod 2 = 1 := by rw [Int.tmod_eq_emod_of_nonneg hMi]; omega
        have w1 : IntKind.i64.wrap ((M : Int).tmod 2) = 1 := by rw [w1']; rfl
        have w3' : (M : Int).tdiv 2 = ((M / 2 : Nat) : Int) := by rw [Int.tdiv_eq_ediv_of_nonneg hMi]; omega
        have w3 : IntKind.i64.wrap ((M : Int).tdiv 2) = ((M / 2 : Nat) : Int) := by rw [w3', IntKind.wrap_i64]; omega
        clear hF hF' hM' hMf
        go_wp2_with (at_builtin; refine wpList_append_sl _ rfl _ _ 26 rfl w.heap.size 3 _ 1 8 Tryz.underlying26 infoInt rfl (by omega) (.slice av k cv) k _ rfl (hO.out.alloc _) _ 1 1 [.int .i64 (j : Int)] rfl (SlR.lit _ _ _ _ _ 1 1 (by rfl) (by simp) rfl (by omega)) (by simp [Value.oneCell']) (by omega) (by omega) (by simp; omega) ?_)
        intro v2 w2' hown2 hgr2 hb2
        obtain ⟨av2, cv2, rfl, _, _⟩ := owns_slice hown2
        rw [← HT.out] at hown2
        have HO2 := Lib.hid hown2
        have HB2 := Lib.hid ((hB.out.alloc (by omega) _).trans hb2)
        clear hown2 hgr2 hb2 hO hB HT
        go_wp2
        go_roundw
        case rel => exact ⟨j + 1, M / 2, k + 1, A ++ [j], av2, cv2, by go_num, by go_num, rfl, by omega, by omega, by omega, HM2, HF, HO2, HB2⟩
        case measure => simp [intOf]; omega
      · rw [if_neg hodd] at hF'
        have HF := Lib.hid hF'
        have w1' : (M : Int).tmod 2 = 0 := by rw [Int.tmod_eq_emod_of_nonneg hMi]; omega
        have w1 : IntKind.i64.wrap ((M : Int).tmod 2) = 0 := by rw [w1']; rfl
        have w3' : (M : Int).tdiv 2 = ((M / 2 : Nat) : Int) := by rw [Int.tdiv_eq_ediv_of_nonneg hMi]; omega
        have w3 : IntKind.i64.wrap ((M : Int).tdiv 2) = ((M / 2 : Nat) : Int) := by rw [w3', IntKind.wrap_i64]; omega
        clear hF hF' hM' hMf
        go_wp2
        go_roundw
        case rel => exact ⟨j + 1, M / 2, k, A, av, cv, by go_num, by go_num, rfl, by omega, by omega, by omega, HM2, HF, hO, hB⟩
        case measure => simp [intOf]; omega
end Go.Proofs.YthkekjgdknnaiaaGreat
