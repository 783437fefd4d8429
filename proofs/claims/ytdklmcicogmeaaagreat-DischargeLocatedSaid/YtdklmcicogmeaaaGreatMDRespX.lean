import Derived.Test.YtdklmcicogmeaaaGreatDXpl
import Derived.Test.YtdklmcicogmeaaaGreatRMeas
/- Sets of bits, the lexicographic order, all explanations: the reference's functions. -/
namespace Go.Proofs.YtdklmcicogmeaaaGreat
open Go.RowKit
set_option linter.unusedVariables false

theorem bef_step {S T : List Nat} {k : Nat} (h1 : k < S.length) (h2 : k < T.length) : bef (S.drop k) (T.drop k) = if S.getD k 0 = T.getD k 0 then bef (S.drop (k + 1)) (T.drop (k + 1)) else decide (S.getD k 0 < T.getD k 0) := by
  rw [List.drop_eq_getElem_cons h1, List.drop_eq_getElem_cons h2]
  rw [List.getD_eq_getElem?_getD, List.getElem?_eq_getElem h1, List.getD_eq_getElem?_getD, List.getElem?_eq_getElem h2]
  rfl
theorem bef_end {S T : List Nat} {k : Nat} (h1 : k ≤ S.length) (h2 : k ≤ T.length) (h : k = S.length ∨ k = T.length) : bef (S.drop k) (T.drop k) = decide (S.length < T.length) := by
  by_cases hs : k = S.length
  · subst hs
    rw [List.drop_length]
    by_cases ht : S.length = T.length
    · rw [ht, List.drop_length, decide_eq_false (by omega)]; rfl
    · rw [List.drop_eq_getElem_cons (show S.length < T.length by omega), decide_eq_true (by omega)]; rfl
  · obtain rfl : k = T.length := by omega
    rw [List.drop_length, List.drop_eq_getElem_cons (show T.length < S.length by omega), decide_eq_false (by omega)]; rfl
theorem nats_getD {S : List Nat} {k : Nat} (h : k < S.length) : (nats S).getD k 0 = ((S.getD k 0 : Nat) : Int) := by
  unfold nats
  rw [List.getD_eq_getElem?_getD, List.getElem?_map, List.getElem?_eq_getElem h, List.getD_eq_getElem?_getD, List.getElem?_eq_getElem h]
  rfl
theorem IntsR.cellX {w : World} {b o : Nat} {n : Nat} {l : List Int} (h : IntsR w (some ⟨b, o, none⟩) n l) {k : Nat} (hk : k < n) : w.cell? ⟨b, o + k, none⟩ = some (.int .i64 (l.getD k 0)) := by
  have hl := h.len
  obtain ⟨b', o', e, _, hc⟩ := h.2.2 (by omega)
  simp only [Option.some.injEq, Addr.mk.injEq] at e
  obtain ⟨rfl, rfl, _⟩ := e
  refine hc k _ ?_
  unfold icells
  rw [List.getElem?_map, List.getD_eq_getElem?_getD, List.getElem?_eq_getElem (by omega)]
  rfl
theorem IntsR.blockX {w : World} {a : Option Addr} {n : Nat} {l : List Int} (h : IntsR w a n l) (hn : 0 < n) : ∃ b o, a = some ⟨b, o, none⟩ ∧ b < w.heap.size := by
  obtain ⟨b, o, e, hb, _⟩ := h.2.2 hn
  exact ⟨b, o, e, hb⟩
theorem memB_next {f i N : Nat} (h : N ≠ 0) : memB (f + 1) i N = if N % 2 = 1 then i :: memB f (i + 1) (N / 2) else memB f (i + 1) (N / 2) := by
  rw [memB, if_neg h]
theorem memB_zero : ∀ f i, memB f i 0 = []
  | 0, _ => rfl
  | f + 1, i => by rw [memB, if_pos rfl]
theorem nats_snoc (A : List Nat) (i : Nat) : icells (nats (A ++ [i])) = icells (nats A) ++ [.int .i64 (i : Int)] := by
  simp [nats, icells]
end Go.Proofs.YtdklmcicogmeaaaGreat
