import Derived.Test.YtbjgklifmillgaaProg
import Derived.ChangeSlices
import Derived.Lib.SmallJoins
import Derived.ProofKit
import Derived.OpenShut
import Derived.ChangeOld
import Derived.Below
import Derived.Laws.IdiomArrays
import Derived.Test.YtbjgklifmillgaaMLb
import Derived.Test.YtbjgklifmillgaaMPf
/- What slices and structs that come in hold. -/
namespace Go.Proofs.Ytbjgklifmillgaa
open Go.ChangeShapes Go.WideShapes Go.ChangeAt Go.RowKit
set_option linter.unusedVariables false

section
variable {H : Type} {enc : TypeId × Value → H} {W : World} {base : Nat} {spare : Nat → Bool} {held : Bool}
theorem opened_ints {fuel : Nat} {cs : List Value} {x : DataW H × List MemPlace} (h : DataW.trod enc Try.prog W base spare held fuel 31 cs = some x) : ∃ a n c l, cs = [.slice a n c] ∧ IntsR W a n l := by
  rcases open_ints Try.underlying31 Try.underlying3 (by kernel_rfl) h with ⟨rfl, _⟩ | ⟨a, len, cap, zs, rfl, _, hl, hm, hz, _, hcell, hwz⟩
  · exact ⟨none, 0, 0, [], rfl, IntsR.nil _ _⟩
  · have hlz : len ≤ zs.length := by rw [hz]; split <;> omega
    refine ⟨some a, len, cap, zs.take len, rfl, ?_, by unfold maxLen at *; omega, fun hn => ?_⟩
    · rw [icells_length, List.length_take]; omega
    · obtain ⟨b, off, spot⟩ := a
      have h0 := hcell 0 (by omega)
      have hs : spot = none := by simpa [Addr.add] using World.cell?_spot h0
      subst hs
      refine ⟨b, off, rfl, World.block_lt_of_cell? W _ h0, fun i u hu => ?_⟩
      have hi : i < (zs.take len).length := by
        rw [← icells_length]
        exact (List.getElem?_eq_some_iff.1 hu).1
      rw [icells_get hi] at hu
      have hi' : i < len := by rw [List.length_take] at hi; omega
      have := hcell i (by omega)
      rw [Addr.add_lit] at this
      rw [this, ← hu]
      congr 2
      simp [List.getD, hi']
end
end Go.Proofs.Ytbjgklifmillgaa

/- What slices of pairs, and arrays of integers, that come in hold. -/
namespace Go.Proofs.Ytbjgklifmillgaa
open Go.ChangeShapes Go.WideShapes Go.ChangeAt Go.RowKit
set_option linter.unusedVariables false

theorem pick_list {Q : Nat → Int × Int → Prop} : ∀ n, (∀ i, i < n → ∃ p, Q i p) → ∃ l : List (Int × Int), l.length = n ∧ ∀ i, i < n → Q i (l.getD i (0, 0))
  | 0, _ => ⟨[], rfl, fun i h => by omega⟩
  | n + 1, h => by
    obtain ⟨l, hl, hq⟩ := pick_list n (fun i hi => h i (by omega))
    obtain ⟨p, hp⟩ := h n (by omega)
    refine ⟨l ++ [p], by simp [hl], fun i hi => ?_⟩
    by_cases hin : i < n
    · have := hq i hin
      rwa [show (l ++ [p]).getD i (0, 0) = l.getD i (0, 0) by simp [List.getD, List.getElem?_append_left (show i < l.length by omega)]]
    · have : i = n := by omega
      subst this
      rwa [show (l ++ [p]).getD i (0, 0) = p by simp [List.getD, hl]]
theorem pcells_at (l : List (Int × Int)) (j : Nat) (u : Value) (h : (pcells l)[j]? = some u) : j / 2 < l.length ∧ u = (if j % 2 = 0 then .int .i64 (l.getD (j / 2) (0, 0)).1 else .int .i64 (l.getD (j / 2) (0, 0)).2) := by
  have hj : j < (pcells l).length := (List.getElem?_eq_some_iff.1 h).1
  rw [pcells_length] at hj
  have h1 : j / 2 < l.length := by omega
  refine ⟨h1, ?_⟩
  have h2 := pcells_get l (j / 2) h1
  by_cases hm : j % 2 = 0
  · rw [if_pos hm]
    have : j / 2 * 2 = j := by omega
    rw [this] at h2
    exact Option.some.inj (h.symm.trans h2.1)
  · rw [if_neg hm]
    have : j / 2 * 2 + 1 = j := by omega
    rw [this] at h2
    exact Option.some.inj (h.symm.trans h2.2)

section
variable {H : Type} {enc : TypeId × Value → H} {W : World} {base : Nat} {spare : Nat → Bool} {held : Bool}
set_option maxRecDepth 100000 in
theorem opened_pairs {ts te : TypeId} {g0 g1 : Field} {fuel : Nat} {cs : List Value} {x : DataW H × List MemPlace} (hts : Try.prog.underlying ts = some (.slice te)) (hte : Try.prog.underlying te = some (.struct #[g0, g1])) (hc : Try.prog.cellsOf te = 2)
    (o0 : g0.offset = 0) (o1 : g1.offset = 1) (ty0 : g0.type = 3) (ty1 : g1.type = 3) (h : DataW.trod enc Try.prog W base spare held fuel ts cs = some x) : ∃ a n c l, cs = [.slice a n c] ∧ PairsR W a n l := by
  rcases DataW.trod_slice hts h with ⟨rfl, _⟩ | ⟨a, len, cap, elems, rest, m, _, rfl, _, hb, hl, hm, hlen, hel, _, _⟩
  · exact ⟨none, 0, 0, [], rfl, PairsR.nil _ _⟩
  · have hc1 : Try.prog.cellsOf 3 = 1 := by kernel_rfl
    have each : ∀ i, i < len → ∃ p : Int × Int, W.cell? (a.add (i * 2)) = some (.int .i64 p.1) ∧ W.cell? ((a.add (i * 2)).add 1) = some (.int .i64 p.2) := by
      intro i hi
      have h1 := hel i hi
      rw [hc, List.getElem?_eq_getElem (by omega), Option.bind_eq_some_iff] at h1
      obtain ⟨cs', hcs, hy⟩ := h1
      obtain ⟨y0, y1, k, _, hlen', h2, h3⟩ := trod_struct2 hte hy
      rw [hc] at hlen'
      rw [o0, ty0, hc1, List.drop_zero] at h2
      rw [o1, ty1, hc1] at h3
      obtain ⟨v0, v1, rfl⟩ : ∃ v0 v1, cs' = [v0, v1] := by
        match cs', hlen' with
        | [v0, v1], _ => exact ⟨v0, v1, rfl⟩
      obtain ⟨m0, e0, _⟩ := DataW.trod_int Try.underlying3 h2
      obtain ⟨m1, e1, _⟩ := DataW.trod_int Try.underlying3 h3
      simp at e0 e1
      subst e0 e1
      have h4 := (World.cells?_some hcs).2.2
      have h5 := h4 0 (by omega)
      have h6 := h4 1 (by omega)
      refine ⟨(m0, m1), ?_, ?_⟩
      · simpa [Addr.add] using h5
      · simpa using h6
    obtain ⟨l, hll, hq⟩ := pick_list len each
    refine ⟨some a, len, cap, l, rfl, ?_, by unfold maxLen at *; omega, fun hn => ?_⟩
    · rw [pcells_length, hll]
    · obtain ⟨b, off, spot⟩ := a
      have h0 := (hq 0 (by omega)).1
      have hs : spot = none := by simpa [Addr.add] using World.cell?_spot h0
      subst hs
      refine ⟨b, off, rfl, World.block_lt_of_cell? W _ h0, fun j u hu => ?_⟩
      obtain ⟨hj, rfl⟩ := pcells_at l j u hu
      have h1 := hq (j / 2) (by omega)
      rw [Addr.add_lit, Addr.add_lit] at h1
      by_cases hm : j % 2 = 0
      · rw [if_pos hm]
        rw [show off + j = off + j / 2 * 2 by omega]
        exact h1.1
      · rw [if_neg hm]
        rw [show off + j = off + j / 2 * 2 + 1 by omega]
        exact h1.2
set_option maxRecDepth 100000 in
theorem opened_impulse {r : Reach} {b0 : Nat} {v : Value} {d : DataW H} {p : List MemPlace} (hv : Value.okWide Try.prog W r b0 53 v) (h : DataW.Trod enc Try.prog W base spare held 53 v d p) : ∃ a n c l, v = .agg #[.slice a n c] ∧ PairsR W a n l := by
  obtain ⟨cs, rfl, hsz⟩ := okWide_struct Try.underlying53 hv
  rw [show Try.prog.cellsOf 53 = 1 by kernel_rfl] at hsz
  obtain ⟨x0, rfl⟩ : ∃ x0, cs = #[x0] := by
    obtain ⟨l⟩ := cs
    match l, hsz with
    | [x0], _ => exact ⟨x0, rfl⟩
  obtain ⟨fuel, hf⟩ := h
  obtain ⟨y0, k, _, _, h2⟩ := trod_struct1 Try.underlying53 hf
  have h3 : DataW.trod enc Try.prog W base spare held k 51 [x0] = some y0 := by
    have : Try.prog.cellsOf 51 = 1 := by kernel_rfl
    simpa [Value.cells, this] using h2
  obtain ⟨a, n, c, l, hx, hl⟩ := opened_pairs Try.underlying51 Try.underlying135 (by kernel_rfl) rfl rfl rfl rfl h3
  simp only [List.cons.injEq, and_true] at hx
  subst hx
  exact ⟨a, n, c, l, rfl, hl⟩
set_option maxRecDepth 100000 in
theorem opened_arr {ty : TypeId} {k : Nat} {r : Reach} {b0 : Nat} {v : Value} {d : DataW H} {p : List MemPlace} (ht : Try.prog.underlying ty = some (.array k 3)) (hc : Try.prog.cellsOf ty = k) (hv : Value.okWide Try.prog W r b0 ty v) (h : DataW.Trod enc Try.prog W base spare held ty v d p) :
    ∃ cs : Array Value, v = .agg cs ∧ cs.size = k ∧ ∀ i, i < k → ∃ m, cs[i]? = some (.int .i64 m) := by
  have hv' := hv
  unfold Value.okWide at hv'
  rw [ht] at hv'
  obtain ⟨cs, rfl, hsz, _⟩ := hv'
  rw [hc] at hsz
  refine ⟨cs, rfl, hsz, fun i hi => ?_⟩
  obtain ⟨fuel, hf⟩ := h
  obtain ⟨xs, m, _, _, _, hxl, hel⟩ := DataW.trod_array ht hf
  have h1 := hel i hi
  have hc1 : Try.prog.cellsOf 3 = 1 := by kernel_rfl
  rw [hc1, Nat.mul_one, List.getElem?_eq_getElem (by omega)] at h1
  obtain ⟨z, hz, _⟩ := DataW.trod_int Try.underlying3 h1
  refine ⟨z, ?_⟩
  have hcl : (Value.agg cs).cells.toList = cs.toList := by simp [Value.cells]
  rw [hcl] at hz
  have h2 : (cs.toList.drop i).take 1 = [cs[i]'(by omega)] := by
    rw [List.drop_eq_getElem_cons (by simpa using (by omega : i < cs.size))]
    simp
  rw [h2] at hz
  simp at hz
  rw [Array.getElem?_eq_getElem (by omega), hz]
end
end Go.Proofs.Ytbjgklifmillgaa
