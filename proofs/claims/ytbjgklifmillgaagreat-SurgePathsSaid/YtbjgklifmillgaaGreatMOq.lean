import Derived.Laws.IdiomArrays
import Derived.Test.YtbjgklifmillgaaGreatMNm
import Derived.Test.YtbjgklifmillgaaGreatMPf
import Derived.Test.YtbjgklifmillgaaGreatOpened
/- What slices of pairs, and arrays of integers, that come in hold. -/
namespace Go.Proofs.YtbjgklifmillgaaGreat
open Go.ChangeShapes Go.WideShapes Go.ChangeAt Go.RowKit
set_option linter.unusedVariables false

theorem pick_list {Q : Nat → Int × Int → Prop} : ∀ n, (∀ i, i < n → ∃ p, Q i p) → ∃ l : List (Int × Int), l.length = n ∧ ∀ i, i < n → Q i (l.getD i (0, 0))
  | 0, _ => ⟨[], rfl, fun i h => by omega⟩
  | n + 1, h => by
    obtain ⟨l, hl, hq⟩ := pick_list n (fun i hi => h i (by omega))
    obtain ⟨p, hp⟩ := h n (by omega)
    refine ⟨l ++ [p], by simp [hl], fun i hi => ?_⟩
    by_cases hin : i < n
    · have := hq i hin
      rwa [show (l ++ [p]).getD i (0, 0) = l.getD i (0, 0) by simp [List.getD, List.getElem?_append_left (show i < l.length by omega)]]
    · have : i = n := by omega
      subst this
      rwa [show (l ++ [p]).getD i (0, 0) = p by simp [List.getD, hl]]
theorem pcells_at (l : List (Int × Int)) (j : Nat) (u : Value) (h : (pcells l)[j]? = some u) : j / 2 < l.length ∧ u = (if j % 2 = 0 then .int .i64 (l.getD (j / 2) (0, 0)).1 else .int .i64 (l.getD (j / 2) (0, 0)).2) := by
  have hj : j < (pcells l).length := (List.getElem?_eq_some_iff.1 h).1
  rw [pcells_length] at hj
  have h1 : j / 2 < l.length := by omega
  refine ⟨h1, ?_⟩
  have h2 := pcells_get l (j / 2) h1
  by_cases hm : j % 2 = 0
  · rw [if_pos hm]
    have : j / 2 * 2 = j := by omega
    rw [this] at h2
    exact Option.some.inj (h.symm.trans h2.1)
  · rw [if_neg hm]
    have : j / 2 * 2 + 1 = j := by omega
    rw [this] at h2
    exact Option.some.inj (h.symm.trans h2.2)

section
variable {H : Type} {enc : TypeId × Value → H} {W : World} {base : Nat} {spare : Nat → Bool} {held : Bool}
set_option maxRecDepth 100000 in
theorem opened_pairs {ts te : TypeId} {g0 g1 : Field} {fuel : Nat} {cs : List Value} {x : DataW H × List MemPlace} (hts : Tryz.prog.underlying ts = some (.slice te)) (hte : Tryz.prog.underlying te = some (.struct #[g0, g1])) (hc : Tryz.prog.cellsOf te = 2)
    (o0 : g0.offset = 0) (o1 : g1.offset = 1) (ty0 : g0.type = 3) (ty1 : g1.type = 3) (h : DataW.trod enc Tryz.prog W base spare held fuel ts cs = some x) : ∃ a n c l, cs = [.slice a n c] ∧ PairsR W a n l := by
  rcases DataW.trod_slice hts h with ⟨rfl, _⟩ | ⟨a, len, cap, elems, rest, m, _, rfl, _, hb, hl, hm, hlen, hel, _, _⟩
  · exact ⟨none, 0, 0, [], rfl, PairsR.nil _ _⟩
  · have hc1 : Tryz.prog.cellsOf 3 = 1 := by kernel_rfl
    have each : ∀ i, i < len → ∃ p : Int × Int, W.cell? (a.add (i * 2)) = some (.int .i64 p.1) ∧ W.cell? ((a.add (i * 2)).add 1) = some (.int .i64 p.2) := by
      intro i hi
      have h1 := hel i hi
      rw [hc, List.getElem?_eq_getElem (by omega), Option.bind_eq_some_iff] at h1
      obtain ⟨cs', hcs, hy⟩ := h1
      obtain ⟨y0, y1, k, _, hlen', h2, h3⟩ := trod_struct2 hte hy
      rw [hc] at hlen'
      rw [o0, ty0, hc1, List.drop_zero] at h2
      rw [o1, ty1, hc1] at h3
      obtain ⟨v0, v1, rfl⟩ : ∃ v0 v1, cs' = [v0, v1] := by
        match cs', hlen' with
        | [v0, v1], _ => exact ⟨v0, v1, rfl⟩
      obtain ⟨m0, e0, _⟩ := DataW.trod_int Tryz.underlying3 h2
      obtain ⟨m1, e1, _⟩ := DataW.trod_int Tryz.underlying3 h3
      simp at e0 e1
      subst e0 e1
      have h4 := (World.cells?_some hcs).2.2
      have h5 := h4 0 (by omega)
      have h6 := h4 1 (by omega)
      refine ⟨(m0, m1), ?_, ?_⟩
      · simpa [Addr.add] using h5
      · simpa using h6
    obtain ⟨l, hll, hq⟩ := pick_list len each
    refine ⟨some a, len, cap, l, rfl, ?_, by unfold maxLen at *; omega, fun hn => ?_⟩
    · rw [pcells_length, hll]
    · obtain ⟨b, off, spot⟩ := a
      have h0 := (hq 0 (by omega)).1
      have hs : spot = none := by simpa [Addr.add] using World.cell?_spot h0
      subst hs
      refine ⟨b, off, rfl, World.block_lt_of_cell? W _ h0, fun j u hu => ?_⟩
      obtain ⟨hj, rfl⟩ := pcells_at l j u hu
      have h1 := hq (j / 2) (by omega)
      rw [Addr.add_lit, Addr.add_lit] at h1
      by_cases hm : j % 2 = 0
      · rw [if_pos hm]
        rw [show off + j = off + j / 2 * 2 by omega]
        exact h1.1
      · rw [if_neg hm]
        rw [show off + j = off + j / 2 * 2 + 1 by omega]
        exact h1.2
set_option maxRecDepth 100000 in
theorem opened_impulse {r : Reach} {b0 : Nat} {v : Value} {d : DataW H} {p : List MemPlace} (hv : Value.okWide Tryz.prog W r b0 81 v) (h : DataW.Trod enc Tryz.prog W base spare held 81 v d p) : ∃ a n c l, v = .agg #[.slice a n c] ∧ PairsR W a n l := by
  obtain ⟨cs, rfl, hsz⟩ := okWide_struct Tryz.underlying81 hv
  rw [show Tryz.prog.cellsOf 81 = 1 by kernel_rfl] at hsz
  obtain ⟨x0, rfl⟩ : ∃ x0, cs = #[x0] := by
    obtain ⟨l⟩ := cs
    match l, hsz with
    | [x0], _ => exact ⟨x0, rfl⟩
  obtain ⟨fuel, hf⟩ := h
  obtain ⟨y0, k, _, _, h2⟩ := trod_struct1 Tryz.underlying81 hf
  have h3 : DataW.trod enc Tryz.prog W base spare held k 79 [x0] = some y0 := by
    have : Tryz.prog.cellsOf 79 = 1 := by kernel_rfl
    simpa [Value.cells, this] using h2
  obtain ⟨a, n, c, l, hx, hl⟩ := opened_pairs Tryz.underlying79 Tryz.underlying78 (by kernel_rfl) rfl rfl rfl rfl h3
  simp only [List.cons.injEq, and_true] at hx
  subst hx
  exact ⟨a, n, c, l, rfl, hl⟩
set_option maxRecDepth 100000 in
theorem opened_arr {ty : TypeId} {k : Nat} {r : Reach} {b0 : Nat} {v : Value} {d : DataW H} {p : List MemPlace} (ht : Tryz.prog.underlying ty = some (.array k 3)) (hc : Tryz.prog.cellsOf ty = k) (hv : Value.okWide Tryz.prog W r b0 ty v) (h : DataW.Trod enc Tryz.prog W base spare held ty v d p) :
    ∃ cs : Array Value, v = .agg cs ∧ cs.size = k ∧ ∀ i, i < k → ∃ m, cs[i]? = some (.int .i64 m) := by
  have hv' := hv
  unfold Value.okWide at hv'
  rw [ht] at hv'
  obtain ⟨cs, rfl, hsz, _⟩ := hv'
  rw [hc] at hsz
  refine ⟨cs, rfl, hsz, fun i hi => ?_⟩
  obtain ⟨fuel, hf⟩ := h
  obtain ⟨xs, m, _, _, _, hxl, hel⟩ := DataW.trod_array ht hf
  have h1 := hel i hi
  have hc1 : Tryz.prog.cellsOf 3 = 1 := by kernel_rfl
  rw [hc1, Nat.mul_one, List.getElem?_eq_getElem (by omega)] at h1
  obtain ⟨z, hz, _⟩ := DataW.trod_int Tryz.underlying3 h1
  refine ⟨z, ?_⟩
  have hcl : (Value.agg cs).cells.toList = cs.toList := by simp [Value.cells]
  rw [hcl] at hz
  have h2 : (cs.toList.drop i).take 1 = [cs[i]'(by omega)] := by
    rw [List.drop_eq_getElem_cons (by simpa using (by omega : i < cs.size))]
    simp
  rw [h2] at hz
  simp at hz
  rw [Array.getElem?_eq_getElem (by omega), hz]
end
end Go.Proofs.YtbjgklifmillgaaGreat

/- What slices of pairs and of integers that come in hold, with bounds. -/
namespace Go.Proofs.YtbjgklifmillgaaGreat
open Go.ChangeShapes Go.WideShapes Go.ChangeAt Go.RowKit
set_option linter.unusedVariables false

theorem wf_bd {z : Int} (h : (Lit.int .i64 z).wf = true) : -9223372036854775808 ≤ z ∧ z ≤ 9223372036854775807 := by
  have h1 : IntKind.i64.min = -9223372036854775808 := by kernel_rfl
  have h2 : IntKind.i64.max = 9223372036854775807 := by kernel_rfl
  have h3 : (decide (IntKind.i64.min ≤ z) && decide (z ≤ IntKind.i64.max)) = true := h
  rw [h1, h2, Bool.and_eq_true, decide_eq_true_eq, decide_eq_true_eq] at h3
  exact h3
section
variable {H : Type} {enc : TypeId × Value → H} {W : World} {base : Nat} {spare : Nat → Bool} {held : Bool}
theorem opened_intsB {fuel : Nat} {cs : List Value} {x : DataW H × List MemPlace} (h : DataW.trod enc Tryz.prog W base spare held fuel 22 cs = some x) : ∃ a n c l, cs = [.slice a n c] ∧ IntsR W a n l ∧ ∀ k, -9223372036854775808 ≤ l.getD k 0 ∧ l.getD k 0 ≤ 9223372036854775807 := by
  rcases open_ints Tryz.underlying22 Tryz.underlying3 (by kernel_rfl) h with ⟨rfl, _⟩ | ⟨a, len, cap, zs, rfl, _, hl, hm, hz, _, hcell, hwz⟩
  · exact ⟨none, 0, 0, [], rfl, IntsR.nil _ _, fun k => by simp⟩
  · have hlz : len ≤ zs.length := by rw [hz]; split <;> omega
    have hbd : ∀ i, i < len → -9223372036854775808 ≤ zs.getD i 0 ∧ zs.getD i 0 ≤ 9223372036854775807 := fun i hi => wf_bd (hwz _ (getD_mem (by omega)))
    refine ⟨some a, len, cap, zs.take len, rfl, ⟨?_, by unfold maxLen at *; omega, fun hn => ?_⟩, fun k => ?_⟩
    · rw [icells_length, List.length_take]; omega
    · obtain ⟨b, off, spot⟩ := a
      have h0 := hcell 0 (by omega)
      have hs : spot = none := by simpa [Addr.add] using World.cell?_spot h0
      subst hs
      refine ⟨b, off, rfl, World.block_lt_of_cell? W _ h0, fun i u hu => ?_⟩
      have hi : i < (zs.take len).length := by
        rw [← icells_length]
        exact (List.getElem?_eq_some_iff.1 hu).1
      rw [icells_get hi] at hu
      have hi' : i < len := by rw [List.length_take] at hi; omega
      have := hcell i (by omega)
      rw [Addr.add_lit] at this
      rw [this, ← hu]
      congr 2
      simp [List.getD, hi']
    · by_cases hk : k < len
      · have : (zs.take len).getD k 0 = zs.getD k 0 := by simp [List.getD, hk]
        rw [this]; exact hbd k hk
      · have : (zs.take len).getD k 0 = 0 := by rw [List.getD_eq_getElem?_getD, List.getElem?_eq_none (by rw [List.length_take]; omega)]; rfl
        rw [this]; omega
set_option maxRecDepth 100000 in
theorem opened_pairsB {ts te : TypeId} {g0 g1 : Field} {fuel : Nat} {cs : List Value} {x : DataW H × List MemPlace} (hts : Tryz.prog.underlying ts = some (.slice te)) (hte : Tryz.prog.underlying te = some (.struct #[g0, g1])) (hc : Tryz.prog.cellsOf te = 2)
    (o0 : g0.offset = 0) (o1 : g1.offset = 1) (ty0 : g0.type = 3) (ty1 : g1.type = 3) (h : DataW.trod enc Tryz.prog W base spare held fuel ts cs = some x) : ∃ a n c l, cs = [.slice a n c] ∧ PairsR W a n l ∧ ∀ i, i < n → (-9223372036854775808 ≤ (l.getD i (0, 0)).1 ∧ (l.getD i (0, 0)).1 ≤ 9223372036854775807) ∧ -9223372036854775808 ≤ (l.getD i (0, 0)).2 ∧ (l.getD i (0, 0)).2 ≤ 9223372036854775807 := by
  rcases DataW.trod_slice hts h with ⟨rfl, _⟩ | ⟨a, len, cap, elems, rest, m, _, rfl, _, hb, hl, hm, hlen, hel, _, _⟩
  · exact ⟨none, 0, 0, [], rfl, PairsR.nil _ _, fun i hi => by omega⟩
  · have hc1 : Tryz.prog.cellsOf 3 = 1 := by kernel_rfl
    have each : ∀ i, i < len → ∃ p : Int × Int, W.cell? (a.add (i * 2)) = some (.int .i64 p.1) ∧ W.cell? ((a.add (i * 2)).add 1) = some (.int .i64 p.2) ∧ (-9223372036854775808 ≤ p.1 ∧ p.1 ≤ 9223372036854775807) ∧ -9223372036854775808 ≤ p.2 ∧ p.2 ≤ 9223372036854775807 := by
      intro i hi
      have h1 := hel i hi
      rw [hc, List.getElem?_eq_getElem (by omega), Option.bind_eq_some_iff] at h1
      obtain ⟨cs', hcs, hy⟩ := h1
      obtain ⟨y0, y1, k, _, hlen', h2, h3⟩ := trod_struct2 hte hy
      rw [hc] at hlen'
      rw [o0, ty0, hc1, List.drop_zero] at h2
      rw [o1, ty1, hc1] at h3
      obtain ⟨v0, v1, rfl⟩ : ∃ v0 v1, cs' = [v0, v1] := by
        match cs', hlen' with
        | [v0, v1], _ => exact ⟨v0, v1, rfl⟩
      obtain ⟨m0, e0, _, w0⟩ := DataW.trod_int Tryz.underlying3 h2
      obtain ⟨m1, e1, _, w1⟩ := DataW.trod_int Tryz.underlying3 h3
      simp at e0 e1
      subst e0 e1
      have h4 := (World.cells?_some hcs).2.2
      have h5 := h4 0 (by omega)
      have h6 := h4 1 (by omega)
      refine ⟨(m0, m1), ?_, ?_, wf_bd w0, wf_bd w1⟩
      · simpa [Addr.add] using h5
      · simpa using h6
    obtain ⟨l, hll, hq⟩ := pick_list len each
    refine ⟨some a, len, cap, l, rfl, ⟨?_, by unfold maxLen at *; omega, fun hn => ?_⟩, fun i hi => (hq i hi).2.2⟩
    · rw [pcells_length, hll]
    · obtain ⟨b, off, spot⟩ := a
      have h0 := (hq 0 (by omega)).1
      have hs : spot = none := by simpa [Addr.add] using World.cell?_spot h0
      subst hs
      refine ⟨b, off, rfl, World.block_lt_of_cell? W _ h0, fun j u hu => ?_⟩
      obtain ⟨hj, rfl⟩ := pcells_at l j u hu
      have h1 := hq (j / 2) (by omega)
      rw [Addr.add_lit, Addr.add_lit] at h1
      by_cases hm : j % 2 = 0
      · rw [if_pos hm]
        rw [show off + j = off + j / 2 * 2 by omega]
        exact h1.1
      · rw [if_neg hm]
        rw [show off + j = off + j / 2 * 2 + 1 by omega]
        exact h1.2.1
end
end Go.Proofs.YtbjgklifmillgaaGreat

/- What a slice of creep paths that comes in holds. -/
namespace Go.Proofs.YtbjgklifmillgaaGreat
open Go.ChangeShapes Go.WideShapes Go.ChangeAt Go.RowKit
set_option linter.unusedVariables false

theorem pick_recs {α : Type} {Q : Nat → α → Prop} : ∀ n, (∀ i, i < n → ∃ p, Q i p) → ∃ l : List α, l.length = n ∧ ∀ i p, l[i]? = some p → Q i p
  | 0, _ => ⟨[], rfl, fun i p h => by simp at h⟩
  | n + 1, h => by
    obtain ⟨l, hl, hq⟩ := pick_recs n (fun i hi => h i (by omega))
    obtain ⟨p, hp⟩ := h n (by omega)
    refine ⟨l ++ [p], by simp [hl], fun i q hi => ?_⟩
    rcases Nat.lt_or_ge i n with h1 | h1
    · rw [List.getElem?_append_left (by omega)] at hi
      exact hq i q hi
    · have hlt := (List.getElem?_eq_some_iff.1 hi).1
      rw [List.length_append, List.length_singleton] at hlt
      obtain rfl : i = n := by omega
      rw [List.getElem?_append_right (by omega), hl, Nat.sub_self] at hi
      simp at hi
      subst hi; exact hp
section
variable {H : Type} {enc : TypeId × Value → H} {W : World} {base : Nat} {spare : Nat → Bool} {held : Bool}
set_option maxRecDepth 100000 in
theorem opened_paths {ts te : TypeId} {g0 g1 g2 g3 g4 : Field} {fuel : Nat} {cs : List Value} {x : DataW H × List MemPlace} (hts : Tryz.prog.underlying ts = some (.slice te)) (hte : Tryz.prog.underlying te = some (.struct #[g0, g1, g2, g3, g4])) (hc : Tryz.prog.cellsOf te = 5)
    (o0 : g0.offset = 0) (o1 : g1.offset = 1) (o2 : g2.offset = 2) (o3 : g3.offset = 3) (o4 : g4.offset = 4) (ty0 : g0.type = 9) (ty1 : g1.type = 3) (ty2 : g2.type = 3) (ty3 : g3.type = 3) (ty4 : g4.type = 3)
    (h : DataW.trod enc Tryz.prog W base spare held fuel ts cs = some x) : ∃ a n c l, cs = [.slice a n c] ∧ PathsR W a n l ∧ ∀ p ∈ l, p.nm.size ≤ maxLen := by
  rcases DataW.trod_slice hts h with ⟨rfl, _⟩ | ⟨a, len, cap, elems, rest, m, _, rfl, _, hb, hl, hm, hlen, hel, _, _⟩
  · exact ⟨none, 0, 0, [], rfl, ER.nil _ _, fun p hp => by simp at hp⟩
  · have hc1 : Tryz.prog.cellsOf 3 = 1 := by kernel_rfl
    have hcs1 : Tryz.prog.cellsOf 9 = 1 := by kernel_rfl
    have each : ∀ i, i < len → ∃ p : PathV, p.nm.size ≤ maxLen ∧ ∀ j, j < 5 → W.cell? ((a.add (i * 5)).add j) = (pEnc p)[j]? := by
      intro i hi
      have h1 := hel i hi
      rw [hc, List.getElem?_eq_getElem (by omega), Option.bind_eq_some_iff] at h1
      obtain ⟨cs', hcs, hy⟩ := h1
      obtain ⟨xs, k, _, _, hlen', hxl, hf⟩ := DataW.trod_struct hte hy
      rw [hc] at hlen'
      have f0 := hf 0 g0 rfl
      have f1 := hf 1 g1 rfl
      have f2 := hf 2 g2 rfl
      have f3 := hf 3 g3 rfl
      have f4 := hf 4 g4 rfl
      rw [o0, ty0, hcs1] at f0
      rw [o1, ty1, hc1] at f1
      rw [o2, ty2, hc1] at f2
      rw [o3, ty3, hc1] at f3
      rw [o4, ty4, hc1] at f4
      have hx5 : xs.length = 5 := by simpa using hxl
      obtain ⟨y0, y1, y2, y3, y4, rfl⟩ : ∃ y0 y1 y2 y3 y4, xs = [y0, y1, y2, y3, y4] := by
        match xs, hx5 with
        | [y0, y1, y2, y3, y4], _ => exact ⟨y0, y1, y2, y3, y4, rfl⟩
      obtain ⟨v0, v1, v2, v3, v4, rfl⟩ : ∃ v0 v1 v2 v3 v4, cs' = [v0, v1, v2, v3, v4] := by
        match cs', hlen' with
        | [v0, v1, v2, v3, v4], _ => exact ⟨v0, v1, v2, v3, v4, rfl⟩
      simp only [List.drop_succ_cons, List.drop_zero, List.take_succ_cons, List.take_zero, List.getElem?_cons_zero, List.getElem?_cons_succ] at f0 f1 f2 f3 f4
      obtain ⟨s, e0, _, hs⟩ := DataW.trod_string Tryz.underlying9 f0
      obtain ⟨m1, e1, _⟩ := DataW.trod_int Tryz.underlying3 f1
      obtain ⟨m2, e2, _⟩ := DataW.trod_int Tryz.underlying3 f2
      obtain ⟨m3, e3, _⟩ := DataW.trod_int Tryz.underlying3 f3
      obtain ⟨m4, e4, _⟩ := DataW.trod_int Tryz.underlying3 f4
      simp at e0 e1 e2 e3 e4
      subst e0 e1 e2 e3 e4
      have h4 := (World.cells?_some hcs).2.2
      refine ⟨⟨s, m1, m2, m3, m4⟩, hs, fun j hj => ?_⟩
      have h5 := h4 j hj
      rw [h5]; rfl
    obtain ⟨l, hll, hq⟩ := pick_recs len each
    refine ⟨some a, len, cap, l, rfl, ⟨hll, by rw [ecells_len pEnc_len, hll], by unfold maxLen at *; omega, fun hn => ?_⟩, fun p hp => ?_⟩
    · obtain ⟨b, off, spot⟩ := a
      obtain ⟨p0, hp0⟩ := get_of_lt hll hn
      have h0 := (hq 0 p0 hp0).2 0 (by omega)
      have hs : spot = none := by
        have h1 : W.cell? ((Addr.add ⟨b, off, spot⟩ (0 * 5)).add 0) = some (.string p0.nm) := h0
        simpa [Addr.add] using World.cell?_spot h1
      subst hs
      refine ⟨b, off, rfl, World.block_lt_of_cell? W _ (h0.trans rfl), fun j u hu => ?_⟩
      have hj := (List.getElem?_eq_some_iff.1 hu).1
      rw [ecells_len pEnc_len] at hj
      obtain ⟨p, hp⟩ := get_of_lt hll (show j / 5 < len by omega)
      have h2 := ecells_get pEnc_len hp (j % 5) (by omega)
      rw [show j / 5 * 5 + j % 5 = j by omega, hu] at h2
      have h3 := (hq (j / 5) p hp).2 (j % 5) (by omega)
      rw [Addr.add_lit, Addr.add_lit] at h3
      rw [show off + j = off + j / 5 * 5 + j % 5 by omega, h3]
      exact h2.symm
    · obtain ⟨i, hi⟩ := List.mem_iff_getElem?.1 hp
      exact (hq i p hi).1
end
end Go.Proofs.YtbjgklifmillgaaGreat
