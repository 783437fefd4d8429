import Derived.Test.YtdklmcicogmeaaaGreatProg
import Derived.ChangeSlices
import Derived.Lib.SmallJoins
import Derived.ProofKit
import Derived.OpenShut
import Derived.ChangeOld
import Derived.Below
import Derived.Test.YtdklmcicogmeaaaGreatMDAnsP
import Derived.Test.YtdklmcicogmeaaaGreatMDRec
import Derived.Test.YtdklmcicogmeaaaGreatMPlain0
import Derived.Test.YtdklmcicogmeaaaGreatMPlainInit
/- What grids, cells, sensors and sections that come in hold. -/
namespace Go.Proofs.YtdklmcicogmeaaaGreat
open Go.ChangeShapes Go.WideShapes Go.ChangeAt Go.RowKit
set_option linter.unusedVariables false

theorem pick_any {α : Type} {Q : Nat → α → Prop} : ∀ n, (∀ i, i < n → ∃ p, Q i p) → ∃ l : List α, l.length = n ∧ ∀ i p, l[i]? = some p → Q i p
  | 0, _ => ⟨[], rfl, fun i p h => by simp at h⟩
  | n + 1, h => by
    obtain ⟨l, hl, hq⟩ := pick_any n (fun i hi => h i (by omega))
    obtain ⟨p, hp⟩ := h n (by omega)
    refine ⟨l ++ [p], by simp [hl], fun i q hi => ?_⟩
    rcases Nat.lt_or_ge i n with h1 | h1
    · rw [List.getElem?_append_left (by omega)] at hi
      exact hq i q hi
    · have hlt := (List.getElem?_eq_some_iff.1 hi).1
      rw [List.length_append, List.length_singleton] at hlt
      obtain rfl : i = n := by omega
      rw [List.getElem?_append_right (by omega), hl, Nat.sub_self] at hi
      simp at hi
      subst hi; exact hp
section
variable {H : Type} {enc : TypeId × Value → H} {W : World} {base : Nat} {spare : Nat → Bool} {held : Bool}
theorem sub_field {t : TypeId} {fs : Array Field} {fuel : Nat} {cs : List Value} {x : DataW H × List MemPlace} (ht : Tryz.prog.underlying t = some (.struct fs)) (h : DataW.trod enc Tryz.prog W base spare held fuel t cs = some x) (i : Nat) (f : Field) (hf : fs[i]? = some f) :
    ∃ m y, DataW.trod enc Tryz.prog W base spare held m f.type ((cs.drop f.offset).take (Tryz.prog.cellsOf f.type)) = some y := by
  obtain ⟨xs, n, _, _, _, hl, he⟩ := DataW.trod_struct ht h
  have hi : i < xs.length := by rw [hl]; exact (Array.getElem?_eq_some_iff.1 hf).1
  exact ⟨n, xs[i], (he i f hf).trans (List.getElem?_eq_getElem hi)⟩
theorem sub_elem {t e : TypeId} {n : Nat} {fuel : Nat} {cs : List Value} {x : DataW H × List MemPlace} (ht : Tryz.prog.underlying t = some (.array n e)) (h : DataW.trod enc Tryz.prog W base spare held fuel t cs = some x) (i : Nat) (hi : i < n) :
    ∃ m y, DataW.trod enc Tryz.prog W base spare held m e ((cs.drop (i * Tryz.prog.cellsOf e)).take (Tryz.prog.cellsOf e)) = some y := by
  obtain ⟨xs, m, _, _, _, hl, he⟩ := DataW.trod_array ht h
  exact ⟨m, xs[i]'(by omega), (he i hi).trans (List.getElem?_eq_getElem (by omega))⟩
theorem leaf_int {fuel : Nat} {c : Value} {x : DataW H × List MemPlace} (h : DataW.trod enc Tryz.prog W base spare held fuel 3 [c] = some x) : ∃ z, c = .int .i64 z := by
  obtain ⟨m, e, _⟩ := DataW.trod_int Tryz.underlying3 h
  simp at e
  exact ⟨m, e⟩
set_option maxRecDepth 100000 in
theorem leaf_arr3 {fuel : Nat} {a b c : Value} {x : DataW H × List MemPlace} (h : DataW.trod enc Tryz.prog W base spare held fuel 22 [a, b, c] = some x) : ∃ p : T3, a = .int .i64 p.x ∧ b = .int .i64 p.y ∧ c = .int .i64 p.z := by
  have hc : Tryz.prog.cellsOf 3 = 1 := by kernel_rfl
  obtain ⟨m0, y0, h0⟩ := sub_elem Tryz.underlying22 h 0 (by omega)
  obtain ⟨m1, y1, h1⟩ := sub_elem Tryz.underlying22 h 1 (by omega)
  obtain ⟨m2, y2, h2⟩ := sub_elem Tryz.underlying22 h 2 (by omega)
  rw [hc] at h0 h1 h2
  obtain ⟨x, rfl⟩ := leaf_int h0
  obtain ⟨y, rfl⟩ := leaf_int h1
  obtain ⟨z, rfl⟩ := leaf_int h2
  exact ⟨⟨x, y, z⟩, rfl, rfl, rfl⟩
theorem array3' {cs : Array Value} (h : cs.size = 3) : ∃ a b c, cs = #[a, b, c] := by
  obtain ⟨l⟩ := cs
  match l, h with
  | [a, b, c], _ => exact ⟨a, b, c, rfl⟩
theorem array7' {cs : Array Value} (h : cs.size = 7) : ∃ a b c d e f g, cs = #[a, b, c, d, e, f, g] := by
  obtain ⟨l⟩ := cs
  match l, h with
  | [a, b, c, d, e, f, g], _ => exact ⟨a, b, c, d, e, f, g, rfl⟩
set_option maxRecDepth 100000 in
theorem opened_cell {r : Reach} {b0 : Nat} {v : Value} {d : DataW H} {p : List MemPlace} (hv : Value.okWide Tryz.prog W r b0 22 v) (h : DataW.Trod enc Tryz.prog W base spare held 22 v d p) : ∃ c : T3, v = .agg #[.int .i64 c.x, .int .i64 c.y, .int .i64 c.z] := by
  have hu : Tryz.prog.underlying 22 = some (.array 3 3) := Tryz.underlying22
  have hk : Tryz.prog.cellsOf 22 = 3 := by kernel_rfl
  simp only [Value.okWide, hu] at hv
  obtain ⟨cs, rfl, hs, _⟩ := hv
  obtain ⟨a, b, c, rfl⟩ := array3' (hs.trans hk)
  obtain ⟨fuel, hf⟩ := h
  obtain ⟨p, rfl, rfl, rfl⟩ := leaf_arr3 (show DataW.trod enc Tryz.prog W base spare held fuel 22 [a, b, c] = _ from hf)
  exact ⟨p, rfl⟩
set_option maxRecDepth 100000 in
theorem opened_grid {r : Reach} {b0 : Nat} {v : Value} {d : DataW H} {p : List MemPlace} (hv : Value.okWide Tryz.prog W r b0 24 v) (h : DataW.Trod enc Tryz.prog W base spare held 24 v d p) :
    ∃ g : Gri, v = .agg #[.int .i64 g.f.x, .int .i64 g.f.y, .int .i64 g.f.z, .int .i64 g.st, .int .i64 g.c.x, .int .i64 g.c.y, .int .i64 g.c.z] := by
  have hk : Tryz.prog.cellsOf 24 = 7 := by kernel_rfl
  have hc : Tryz.prog.cellsOf 3 = 1 := by kernel_rfl
  have h3 : Tryz.prog.cellsOf 22 = 3 := by kernel_rfl
  obtain ⟨cs, rfl, hsz⟩ := okWide_struct Tryz.underlying24 hv
  obtain ⟨a, b, c, d, e, f, g, rfl⟩ := array7' (hsz.trans hk)
  obtain ⟨fuel, hf⟩ := h
  have hf := show DataW.trod enc Tryz.prog W base spare held fuel 24 [a, b, c, d, e, f, g] = _ from hf
  obtain ⟨m0, y0, h0⟩ := sub_field Tryz.underlying24 hf 0 _ rfl
  obtain ⟨m1, y1, h1⟩ := sub_field Tryz.underlying24 hf 1 _ rfl
  obtain ⟨m2, y2, h2⟩ := sub_field Tryz.underlying24 hf 2 _ rfl
  have k0 : DataW.trod enc Tryz.prog W base spare held m0 22 (([a, b, c, d, e, f, g].drop 0).take (Tryz.prog.cellsOf 22)) = some y0 := h0
  have k1 : DataW.trod enc Tryz.prog W base spare held m1 3 (([a, b, c, d, e, f, g].drop 3).take (Tryz.prog.cellsOf 3)) = some y1 := h1
  have k2 : DataW.trod enc Tryz.prog W base spare held m2 22 (([a, b, c, d, e, f, g].drop 4).take (Tryz.prog.cellsOf 22)) = some y2 := h2
  rw [h3] at k0 k2
  rw [hc] at k1
  obtain ⟨p, rfl, rfl, rfl⟩ := leaf_arr3 (show DataW.trod enc Tryz.prog W base spare held m0 22 [a, b, c] = _ from k0)
  obtain ⟨s, rfl⟩ := leaf_int (show DataW.trod enc Tryz.prog W base spare held m1 3 [d] = _ from k1)
  obtain ⟨q, rfl, rfl, rfl⟩ := leaf_arr3 (show DataW.trod enc Tryz.prog W base spare held m2 22 [e, f, g] = _ from k2)
  exact ⟨⟨p, s, q⟩, rfl⟩
/-- A slice of records that comes in. -/
theorem opened_recs {α : Type} {en : α → List Value} {k : Nat} {Φ : α → Prop} (hk : ∀ x, (en x).length = k) (hk0 : 0 < k) {ts te : TypeId} {fuel : Nat} {cs : List Value} {x : DataW H × List MemPlace} (hts : Tryz.prog.underlying ts = some (.slice te)) (hc : Tryz.prog.cellsOf te = k)
    (hel : ∀ m (c' : List Value) y, c'.length = k → DataW.trod enc Tryz.prog W base spare held m te c' = some y → ∃ p, c' = en p ∧ Φ p)
    (h : DataW.trod enc Tryz.prog W base spare held fuel ts cs = some x) : ∃ a n c l, cs = [.slice a n c] ∧ ER en k W a n l ∧ ∀ p ∈ l, Φ p := by
  rcases DataW.trod_slice hts h with ⟨rfl, _⟩ | ⟨a, len, cap, elems, rest, m, _, rfl, _, hb, hl, hm, hlen, hee, _, _⟩
  · exact ⟨none, 0, 0, [], rfl, ER.nil _ _, fun p hp => by simp at hp⟩
  · have each : ∀ i, i < len → ∃ p : α, Φ p ∧ ∀ j, j < k → W.cell? ((a.add (i * k)).add j) = (en p)[j]? := by
      intro i hi
      have h1 := hee i hi
      rw [hc, List.getElem?_eq_getElem (by omega), Option.bind_eq_some_iff] at h1
      obtain ⟨cs', hcs, hy⟩ := h1
      have hcl : cs'.length = k := (World.cells?_some hcs).2.1
      obtain ⟨p, rfl, hp⟩ := hel _ cs' _ hcl hy
      exact ⟨p, hp, fun j hj => (World.cells?_some hcs).2.2 j hj⟩
    obtain ⟨l, hll, hq⟩ := pick_any len each
    refine ⟨some a, len, cap, l, rfl, ⟨hll, by rw [ecells_len hk, hll], by unfold maxLen at *; omega, fun hn => ?_⟩, fun p hp => ?_⟩
    · obtain ⟨b, off, spot⟩ := a
      obtain ⟨p0, hp0⟩ := get_of_lt hll hn
      have hp00 : (en p0)[0]? = some ((en p0)[0]'(by rw [hk]; exact hk0)) := List.getElem?_eq_getElem _
      have h0 := ((hq 0 p0 hp0).2 0 hk0).trans hp00
      have hs : spot = none := by simpa [Addr.add] using World.cell?_spot h0
      subst hs
      rw [Addr.add_lit, Addr.add_lit] at h0
      refine ⟨b, off, rfl, World.block_lt_of_cell? W _ h0, fun j u hu => ?_⟩
      have hj := (List.getElem?_eq_some_iff.1 hu).1
      rw [ecells_len hk] at hj
      have hdm : j = j / k * k + j % k := by rw [Nat.mul_comm]; exact (Nat.div_add_mod j k).symm
      have hjk : j / k < len := by rw [← hll]; exact Nat.div_lt_of_lt_mul (by rw [Nat.mul_comm]; exact hj)
      have hm0 : j % k < k := Nat.mod_lt _ hk0
      obtain ⟨p1, hp1⟩ := get_of_lt hll hjk
      have h1 := (hq _ p1 hp1).2 (j % k) hm0
      have h2 := ecells_get hk hp1 (j % k) hm0
      rw [← hdm] at h2
      rw [h2.symm.trans hu] at h1
      rw [Addr.add_lit, Addr.add_lit] at h1
      rw [show off + j = off + j / k * k + j % k by omega]
      exact h1
    · obtain ⟨i, hi⟩ := List.mem_iff_getElem?.1 hp
      exact (hq i p hi).1
set_option maxRecDepth 100000 in
theorem opened_arrivals {r : Reach} {b0 : Nat} {v : Value} {d : DataW H} {p : List MemPlace} (hv : Value.okWide Tryz.prog W r b0 38 v) (h : DataW.Trod enc Tryz.prog W base spare held 38 v d p) :
    ∃ (A : Arr) (a : Option Addr) (n c : Nat), v = .agg #[.int .i64 A.lo, .int .i64 A.hi, .slice a n c] ∧ SenR W a n A.l := by
  have hk : Tryz.prog.cellsOf 38 = 3 := by kernel_rfl
  have hc : Tryz.prog.cellsOf 3 = 1 := by kernel_rfl
  have h2 : Tryz.prog.cellsOf 35 = 2 := by kernel_rfl
  have h1 : Tryz.prog.cellsOf 36 = 1 := by kernel_rfl
  have h3 : Tryz.prog.cellsOf 22 = 3 := by kernel_rfl
  have h5 : Tryz.prog.cellsOf 40 = 5 := by kernel_rfl
  have hrng : ∀ m (a b : Value) y, DataW.trod enc Tryz.prog W base spare held m 35 [a, b] = some y → ∃ lo hi : Int, a = .int .i64 lo ∧ b = .int .i64 hi := by
    intro m a b y hy
    obtain ⟨m0, y0, e0⟩ := sub_field Tryz.underlying35 hy 0 _ rfl
    obtain ⟨m1, y1, e1⟩ := sub_field Tryz.underlying35 hy 1 _ rfl
    have e0 : DataW.trod enc Tryz.prog W base spare held m0 3 (([a, b].drop 0).take (Tryz.prog.cellsOf 3)) = some y0 := e0
    have e1 : DataW.trod enc Tryz.prog W base spare held m1 3 (([a, b].drop 1).take (Tryz.prog.cellsOf 3)) = some y1 := e1
    rw [hc] at e0 e1
    obtain ⟨lo, rfl⟩ := leaf_int (show DataW.trod enc Tryz.prog W base spare held m0 3 [a] = _ from e0)
    obtain ⟨hi, rfl⟩ := leaf_int (show DataW.trod enc Tryz.prog W base spare held m1 3 [b] = _ from e1)
    exact ⟨lo, hi, rfl, rfl⟩
  obtain ⟨cs, rfl, hsz⟩ := okWide_struct Tryz.underlying38 hv
  obtain ⟨a, b, c, rfl⟩ := array3' (hsz.trans hk)
  obtain ⟨fuel, hf⟩ := h
  have hf := show DataW.trod enc Tryz.prog W base spare held fuel 38 [a, b, c] = _ from hf
  obtain ⟨m0, y0, e0⟩ := sub_field Tryz.underlying38 hf 0 _ rfl
  obtain ⟨m1, y1, e1⟩ := sub_field Tryz.underlying38 hf 1 _ rfl
  have e0 : DataW.trod enc Tryz.prog W base spare held m0 35 (([a, b, c].drop 0).take (Tryz.prog.cellsOf 35)) = some y0 := e0
  have e1 : DataW.trod enc Tryz.prog W base spare held m1 36 (([a, b, c].drop 2).take (Tryz.prog.cellsOf 36)) = some y1 := e1
  rw [h2] at e0
  rw [h1] at e1
  obtain ⟨lo, hi, rfl, rfl⟩ := hrng m0 a b y0 e0
  have hsen : ∀ m (c' : List Value) y, c'.length = 5 → DataW.trod enc Tryz.prog W base spare held m 40 c' = some y → ∃ p, c' = e5 p ∧ True := by
    intro m c' y hl hy
    match c', hl with
    | [v0, v1, v2, v3, v4], _ =>
      obtain ⟨k0, z0, g0⟩ := sub_field Tryz.underlying40 hy 0 _ rfl
      obtain ⟨k1, z1, g1⟩ := sub_field Tryz.underlying40 hy 1 _ rfl
      have g0 : DataW.trod enc Tryz.prog W base spare held k0 22 (([v0, v1, v2, v3, v4].drop 0).take (Tryz.prog.cellsOf 22)) = some z0 := g0
      have g1 : DataW.trod enc Tryz.prog W base spare held k1 35 (([v0, v1, v2, v3, v4].drop 3).take (Tryz.prog.cellsOf 35)) = some z1 := g1
      rw [h3] at g0
      rw [h2] at g1
      obtain ⟨p, rfl, rfl, rfl⟩ := leaf_arr3 (show DataW.trod enc Tryz.prog W base spare held k0 22 [v0, v1, v2] = _ from g0)
      obtain ⟨tl, th, rfl, rfl⟩ := hrng k1 v3 v4 z1 g1
      exact ⟨⟨p.x, p.y, p.z, tl, th⟩, rfl, trivial⟩
  obtain ⟨a', n, c', l, hcs, hl, _⟩ := opened_recs (Φ := fun _ => True) e5_len (by omega) Tryz.underlying36 h5 hsen (show DataW.trod enc Tryz.prog W base spare held m1 36 [c] = _ from e1)
  simp only [List.cons.injEq, and_true] at hcs
  subst hcs
  exact ⟨⟨lo, hi, l⟩, a', n, c', rfl, hl⟩
theorem wf_bd9 {z : Int} (h : (Lit.int .i64 z).wf = true) : -9223372036854775808 ≤ z ∧ z ≤ 9223372036854775807 := by
  have h1 : IntKind.i64.min = -9223372036854775808 := by kernel_rfl
  have h2 : IntKind.i64.max = 9223372036854775807 := by kernel_rfl
  have h3 : (decide (IntKind.i64.min ≤ z) && decide (z ≤ IntKind.i64.max)) = true := h
  rw [h1, h2, Bool.and_eq_true, decide_eq_true_eq, decide_eq_true_eq] at h3
  exact h3
set_option maxRecDepth 100000 in
theorem leaf_intB {fuel : Nat} {c : Value} {x : DataW H × List MemPlace} (h : DataW.trod enc Tryz.prog W base spare held fuel 3 [c] = some x) : ∃ z, c = .int .i64 z ∧ -9223372036854775808 ≤ z ∧ z ≤ 9223372036854775807 := by
  obtain ⟨m, e, _, hw⟩ := DataW.trod_int Tryz.underlying3 h
  simp at e
  exact ⟨m, e, wf_bd9 hw⟩
set_option maxRecDepth 100000 in
theorem opened_int {r : Reach} {b0 : Nat} {v : Value} {d : DataW H} {p : List MemPlace} (hv : Value.okWide Tryz.prog W r b0 3 v) (h : DataW.Trod enc Tryz.prog W base spare held 3 v d p) : ∃ z : Int, v = .int .i64 z ∧ -9223372036854775808 ≤ z ∧ z ≤ 9223372036854775807 := by
  obtain ⟨z, rfl, _, _, hw⟩ := open_int Tryz.underlying3 hv h
  exact ⟨z, rfl, wf_bd9 hw⟩
set_option maxRecDepth 100000 in
theorem opened_frac {r : Reach} {b0 : Nat} {v : Value} {d : DataW H} {p : List MemPlace} (hv : Value.okWide Tryz.prog W r b0 55 v) (h : DataW.Trod enc Tryz.prog W base spare held 55 v d p) :
    ∃ x y : Int, v = .agg #[.int .i64 x, .int .i64 y] ∧ (-9223372036854775808 ≤ x ∧ x ≤ 9223372036854775807) ∧ -9223372036854775808 ≤ y ∧ y ≤ 9223372036854775807 := by
  have hc : Tryz.prog.cellsOf 3 = 1 := by kernel_rfl
  have h2 : Tryz.prog.cellsOf 55 = 2 := by kernel_rfl
  obtain ⟨cs, rfl, hsz⟩ := okWide_struct Tryz.underlying55 hv
  obtain ⟨a, b, rfl⟩ : ∃ a b, cs = #[a, b] := by
    have hs := hsz.trans h2
    obtain ⟨l⟩ := cs
    match l, hs with
    | [a, b], _ => exact ⟨a, b, rfl⟩
  obtain ⟨fuel, hf⟩ := h
  have hf := show DataW.trod enc Tryz.prog W base spare held fuel 55 [a, b] = _ from hf
  obtain ⟨m0, y0, e0⟩ := sub_field Tryz.underlying55 hf 0 _ rfl
  obtain ⟨m1, y1, e1⟩ := sub_field Tryz.underlying55 hf 1 _ rfl
  have e0 : DataW.trod enc Tryz.prog W base spare held m0 3 (([a, b].drop 0).take (Tryz.prog.cellsOf 3)) = some y0 := e0
  have e1 : DataW.trod enc Tryz.prog W base spare held m1 3 (([a, b].drop 1).take (Tryz.prog.cellsOf 3)) = some y1 := e1
  rw [hc] at e0 e1
  obtain ⟨x, rfl, hx⟩ := leaf_intB (show DataW.trod enc Tryz.prog W base spare held m0 3 [a] = _ from e0)
  obtain ⟨y, rfl, hy⟩ := leaf_intB (show DataW.trod enc Tryz.prog W base spare held m1 3 [b] = _ from e1)
  exact ⟨x, y, rfl, hx, hy⟩
set_option maxRecDepth 100000 in
/-- A slice that comes in as a parameter. -/
theorem opened_slice {α : Type} {en : α → List Value} {k : Nat} {Φ : α → Prop} (hk : ∀ x, (en x).length = k) (hk0 : 0 < k) {ts te : TypeId} {r : Reach} {b0 : Nat} {v : Value} {d : DataW H} {p : List MemPlace} (hts : Tryz.prog.underlying ts = some (.slice te)) (hc : Tryz.prog.cellsOf te = k)
    (hel : ∀ m (c' : List Value) y, c'.length = k → DataW.trod enc Tryz.prog W base spare held m te c' = some y → ∃ p, c' = en p ∧ Φ p)
    (hv : Value.okWide Tryz.prog W r b0 ts v) (h : DataW.Trod enc Tryz.prog W base spare held ts v d p) : ∃ l a n c, v = .slice a n c ∧ ER en k W a n l ∧ ∀ p ∈ l, Φ p := by
  obtain ⟨a, n, c, rfl⟩ := okWide_slice hts hv
  obtain ⟨fuel, hf⟩ := h
  obtain ⟨a', n', c', l, hcs, hl, hp⟩ := opened_recs hk hk0 hts hc hel (show DataW.trod enc Tryz.prog W base spare held fuel ts [.slice a n c] = _ from hf)
  simp only [List.cons.injEq, Value.slice.injEq, and_true] at hcs
  obtain ⟨rfl, rfl, rfl⟩ := hcs
  exact ⟨l, a, n, c, rfl, hl, hp⟩
set_option maxRecDepth 100000 in
theorem opened_gausses {r : Reach} {b0 : Nat} {v : Value} {d : DataW H} {p : List MemPlace} (hv : Value.okWide Tryz.prog W r b0 86 v) (h : DataW.Trod enc Tryz.prog W base spare held 86 v d p) :
    ∃ (l : List (Int × Int)) (a : Option Addr) (n c : Nat), v = .slice a n c ∧ PairsR W a n l := by
  have hc : Tryz.prog.cellsOf 3 = 1 := by kernel_rfl
  have h2 : Tryz.prog.cellsOf 107 = 2 := by kernel_rfl
  obtain ⟨l, a, n, c, hv', hl, _⟩ := opened_slice (en := fun p : Int × Int => [.int .i64 p.1, .int .i64 p.2]) (Φ := fun _ => True) (fun _ => rfl) (by omega) Tryz.underlying86 h2 (fun m c' y hl hy => by
    match c', hl with
    | [a, b], _ =>
      obtain ⟨m0, y0, e0⟩ := sub_field Tryz.underlying107 hy 0 _ rfl
      obtain ⟨m1, y1, e1⟩ := sub_field Tryz.underlying107 hy 1 _ rfl
      have e0 : DataW.trod enc Tryz.prog W base spare held m0 3 (([a, b].drop 0).take (Tryz.prog.cellsOf 3)) = some y0 := e0
      have e1 : DataW.trod enc Tryz.prog W base spare held m1 3 (([a, b].drop 1).take (Tryz.prog.cellsOf 3)) = some y1 := e1
      rw [hc] at e0 e1
      obtain ⟨x, rfl⟩ := leaf_int (show DataW.trod enc Tryz.prog W base spare held m0 3 [a] = _ from e0)
      obtain ⟨y, rfl⟩ := leaf_int (show DataW.trod enc Tryz.prog W base spare held m1 3 [b] = _ from e1)
      exact ⟨(x, y), rfl, trivial⟩) hv h
  exact ⟨l, a, n, c, hv', hl.2⟩
theorem leaf_three {t : TypeId} {g0 g1 g2 : Field} (ht : Tryz.prog.underlying t = some (.struct #[g0, g1, g2])) (o0 : g0.offset = 0) (o1 : g1.offset = 1) (o2 : g2.offset = 2) (ty0 : g0.type = 3) (ty1 : g1.type = 3) (ty2 : g2.type = 3) :
    ∀ m (c' : List Value) y, c'.length = 3 → DataW.trod enc Tryz.prog W base spare held m t c' = some y → ∃ p : T3, c' = e3 p ∧ True := by
  intro m c' y hl hy
  have hc : Tryz.prog.cellsOf 3 = 1 := by kernel_rfl
  match c', hl with
  | [a, b, c], _ =>
    obtain ⟨m0, y0, e0⟩ := sub_field ht hy 0 g0 rfl
    obtain ⟨m1, y1, e1⟩ := sub_field ht hy 1 g1 rfl
    obtain ⟨m2, y2, e2⟩ := sub_field ht hy 2 g2 rfl
    rw [o0, ty0, hc] at e0
    rw [o1, ty1, hc] at e1
    rw [o2, ty2, hc] at e2
    obtain ⟨x, rfl⟩ := leaf_int (show DataW.trod enc Tryz.prog W base spare held m0 3 [a] = _ from e0)
    obtain ⟨y, rfl⟩ := leaf_int (show DataW.trod enc Tryz.prog W base spare held m1 3 [b] = _ from e1)
    obtain ⟨z, rfl⟩ := leaf_int (show DataW.trod enc Tryz.prog W base spare held m2 3 [c] = _ from e2)
    exact ⟨⟨x, y, z⟩, rfl, trivial⟩
set_option maxRecDepth 100000 in
theorem opened_defs {r : Reach} {b0 : Nat} {v : Value} {d : DataW H} {p : List MemPlace} (hv : Value.okWide Tryz.prog W r b0 82 v) (h : DataW.Trod enc Tryz.prog W base spare held 82 v d p) :
    ∃ (l : List T3) (a : Option Addr) (n c : Nat), v = .slice a n c ∧ T3R W a n l := by
  have h3 : Tryz.prog.cellsOf 104 = 3 := by kernel_rfl
  obtain ⟨l, a, n, c, hv', hl, _⟩ := opened_slice (Φ := fun _ => True) e3_len (by omega) Tryz.underlying82 h3 (leaf_three Tryz.underlying104 rfl rfl rfl rfl rfl rfl) hv h
  exact ⟨l, a, n, c, hv', hl⟩
set_option maxRecDepth 100000 in
theorem opened_network {r : Reach} {b0 : Nat} {v : Value} {d : DataW H} {p : List MemPlace} (hv : Value.okWide Tryz.prog W r b0 81 v) (h : DataW.Trod enc Tryz.prog W base spare held 81 v d p) :
    ∃ (l : List T3) (a : Option Addr) (n c : Nat), v = .agg #[.slice a n c] ∧ T3R W a n l := by
  have h1 : Tryz.prog.cellsOf 81 = 1 := by kernel_rfl
  have hs1 : Tryz.prog.cellsOf 79 = 1 := by kernel_rfl
  have h3 : Tryz.prog.cellsOf 178 = 3 := by kernel_rfl
  obtain ⟨cs, rfl, hsz⟩ := okWide_struct Tryz.underlying81 hv
  obtain ⟨a, rfl⟩ : ∃ a, cs = #[a] := by
    have hs := hsz.trans h1
    obtain ⟨l⟩ := cs
    match l, hs with
    | [a], _ => exact ⟨a, rfl⟩
  obtain ⟨fuel, hf⟩ := h
  have hf := show DataW.trod enc Tryz.prog W base spare held fuel 81 [a] = _ from hf
  obtain ⟨m0, y0, e0⟩ := sub_field Tryz.underlying81 hf 0 _ rfl
  have e0 : DataW.trod enc Tryz.prog W base spare held m0 79 (([a].drop 0).take (Tryz.prog.cellsOf 79)) = some y0 := e0
  rw [hs1] at e0
  obtain ⟨a', n, c', l, hcs, hl, _⟩ := opened_recs (Φ := fun _ => True) e3_len (by omega) Tryz.underlying79 h3 (leaf_three Tryz.underlying178 rfl rfl rfl rfl rfl rfl) (show DataW.trod enc Tryz.prog W base spare held m0 79 [a] = _ from e0)
  simp only [List.cons.injEq, and_true] at hcs
  subst hcs
  exact ⟨l, a', n, c', rfl, hl⟩
theorem icells_ecells (l : List Int) : ecells (fun p : Int => [Value.int .i64 p]) l = icells l := by
  unfold ecells icells
  induction l with
  | nil => rfl
  | cons x r ih => simp only [List.flatMap_cons, List.map_cons, ih]; rfl
set_option maxRecDepth 100000 in
theorem opened_list {r : Reach} {b0 : Nat} {v : Value} {d : DataW H} {p : List MemPlace} (hv : Value.okWide Tryz.prog W r b0 27 v) (h : DataW.Trod enc Tryz.prog W base spare held 27 v d p) :
    ∃ (l : List Int) (a : Option Addr) (n c : Nat), v = .slice a n c ∧ IntsR W a n l := by
  have hc : Tryz.prog.cellsOf 3 = 1 := by kernel_rfl
  obtain ⟨l, a, n, c, hv', hl, _⟩ := opened_slice (en := fun p : Int => [.int .i64 p]) (k := 1) (Φ := fun _ => True) (fun _ => rfl) (by omega) Tryz.underlying27 hc (fun m c' y hl hy => by
    match c', hl with
    | [a], _ =>
      obtain ⟨x, rfl⟩ := leaf_int hy
      exact ⟨x, rfl, trivial⟩) hv h
  refine ⟨l, a, n, c, hv', ?_⟩
  have := hl.2
  rwa [icells_ecells] at this
set_option maxRecDepth 100000 in
theorem leaf_list {fuel : Nat} {c : Value} {x : DataW H × List MemPlace} (h : DataW.trod enc Tryz.prog W base spare held fuel 27 [c] = some x) : ∃ (l : List Int) (a : Option Addr) (n cp : Nat), c = .slice a n cp ∧ IntsR W a n l := by
  have hc : Tryz.prog.cellsOf 3 = 1 := by kernel_rfl
  obtain ⟨a, n, cp, l, hcs, hl, _⟩ := opened_recs (en := fun p : Int => [.int .i64 p]) (k := 1) (Φ := fun _ => True) (fun _ => rfl) (by omega) Tryz.underlying27 hc (fun m c' y hl hy => by
    match c', hl with
    | [a], _ =>
      obtain ⟨x, rfl⟩ := leaf_int hy
      exact ⟨x, rfl, trivial⟩) h
  simp only [List.cons.injEq, and_true] at hcs
  have := hl.2
  rw [icells_ecells] at this
  exact ⟨l, a, n, cp, hcs, this⟩
set_option maxRecDepth 100000 in
theorem leaf_gausses {fuel : Nat} {c : Value} {x : DataW H × List MemPlace} (h : DataW.trod enc Tryz.prog W base spare held fuel 86 [c] = some x) : ∃ (l : List (Int × Int)) (a : Option Addr) (n cp : Nat), c = .slice a n cp ∧ PairsR W a n l := by
  have hc : Tryz.prog.cellsOf 3 = 1 := by kernel_rfl
  have h2 : Tryz.prog.cellsOf 107 = 2 := by kernel_rfl
  obtain ⟨a, n, cp, l, hcs, hl, _⟩ := opened_recs (en := fun p : Int × Int => [.int .i64 p.1, .int .i64 p.2]) (k := 2) (Φ := fun _ => True) (fun _ => rfl) (by omega) Tryz.underlying86 h2 (fun m c' y hl hy => by
    match c', hl with
    | [a, b], _ =>
      obtain ⟨m0, y0, e0⟩ := sub_field Tryz.underlying107 hy 0 _ rfl
      obtain ⟨m1, y1, e1⟩ := sub_field Tryz.underlying107 hy 1 _ rfl
      have e0 : DataW.trod enc Tryz.prog W base spare held m0 3 (([a, b].drop 0).take (Tryz.prog.cellsOf 3)) = some y0 := e0
      have e1 : DataW.trod enc Tryz.prog W base spare held m1 3 (([a, b].drop 1).take (Tryz.prog.cellsOf 3)) = some y1 := e1
      rw [hc] at e0 e1
      obtain ⟨x, rfl⟩ := leaf_int (show DataW.trod enc Tryz.prog W base spare held m0 3 [a] = _ from e0)
      obtain ⟨y, rfl⟩ := leaf_int (show DataW.trod enc Tryz.prog W base spare held m1 3 [b] = _ from e1)
      exact ⟨(x, y), rfl, trivial⟩) h
  simp only [List.cons.injEq, and_true] at hcs
  exact ⟨l, a, n, cp, hcs, hl.2⟩
set_option maxRecDepth 100000 in
theorem opened_claim {r : Reach} {b0 : Nat} {v : Value} {d : DataW H} {p : List MemPlace} (hv : Value.okWide Tryz.prog W r b0 113 v) (h : DataW.Trod enc Tryz.prog W base spare held 113 v d p) :
    ∃ (fs : List Int) (af : Option Addr) (nf cf : Nat) (rs : List (Int × Int)) (ar : Option Addr) (nr cr : Nat) (S : List Int) (aq : Option Addr) (q cq : Nat), v = .agg #[.slice af nf cf, .slice ar nr cr, .slice aq q cq] ∧ IntsR W af nf fs ∧ PairsR W ar nr rs ∧ IntsR W aq q S := by
  have hk : Tryz.prog.cellsOf 113 = 3 := by kernel_rfl
  have h2 : Tryz.prog.cellsOf 100 = 2 := by kernel_rfl
  have h1 : Tryz.prog.cellsOf 27 = 1 := by kernel_rfl
  have h1g : Tryz.prog.cellsOf 86 = 1 := by kernel_rfl
  obtain ⟨cs, rfl, hsz⟩ := okWide_struct Tryz.underlying113 hv
  obtain ⟨a, b, c, rfl⟩ := array3' (hsz.trans hk)
  obtain ⟨fuel, hf⟩ := h
  have hf := show DataW.trod enc Tryz.prog W base spare held fuel 113 [a, b, c] = _ from hf
  obtain ⟨m0, y0, e0⟩ := sub_field Tryz.underlying113 hf 0 _ rfl
  obtain ⟨m1, y1, e1⟩ := sub_field Tryz.underlying113 hf 1 _ rfl
  have e0 : DataW.trod enc Tryz.prog W base spare held m0 100 (([a, b, c].drop 0).take (Tryz.prog.cellsOf 100)) = some y0 := e0
  have e1 : DataW.trod enc Tryz.prog W base spare held m1 27 (([a, b, c].drop 2).take (Tryz.prog.cellsOf 27)) = some y1 := e1
  rw [h2] at e0
  rw [h1] at e1
  have e0 : DataW.trod enc Tryz.prog W base spare held m0 100 [a, b] = some y0 := e0
  obtain ⟨m2, y2, e2⟩ := sub_field Tryz.underlying100 e0 0 _ rfl
  obtain ⟨m3, y3, e3⟩ := sub_field Tryz.underlying100 e0 1 _ rfl
  have e2 : DataW.trod enc Tryz.prog W base spare held m2 27 (([a, b].drop 0).take (Tryz.prog.cellsOf 27)) = some y2 := e2
  have e3 : DataW.trod enc Tryz.prog W base spare held m3 86 (([a, b].drop 1).take (Tryz.prog.cellsOf 86)) = some y3 := e3
  rw [h1] at e2
  rw [h1g] at e3
  obtain ⟨fs, af, nf, cf, rfl, hfs⟩ := leaf_list (show DataW.trod enc Tryz.prog W base spare held m2 27 [a] = _ from e2)
  obtain ⟨rs, ar, nr, cr, rfl, hrs⟩ := leaf_gausses (show DataW.trod enc Tryz.prog W base spare held m3 86 [b] = _ from e3)
  obtain ⟨S, aq, q, cq, rfl, hS⟩ := leaf_list (show DataW.trod enc Tryz.prog W base spare held m1 27 [c] = _ from e1)
  exact ⟨fs, af, nf, cf, rs, ar, nr, cr, S, aq, q, cq, rfl, hfs, hrs, hS⟩
end
end Go.Proofs.YtdklmcicogmeaaaGreat
