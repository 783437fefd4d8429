import Derived.Test.YtdjinmieogpgcaaGreatProg
import Derived.ChangeSlices
import Derived.Lib.SmallJoins
import Derived.ProofKit
import Derived.OpenShut
import Derived.ChangeOld
import Derived.Below
import Derived.Test.YtdjinmieogpgcaaGreatMTNevP
/- What machines, limits, places, regulators and pairs that come in hold. Printed by gen_open6.py. -/
namespace Go.Proofs.YtdjinmieogpgcaaGreat
open Go.ChangeShapes Go.WideShapes Go.ChangeAt Go.RowKit
set_option linter.unusedVariables false
set_option maxRecDepth 100000
theorem pick_any {α : Type} {Q : Nat → α → Prop} : ∀ n, (∀ i, i < n → ∃ p, Q i p) → ∃ l : List α, l.length = n ∧ ∀ i p, l[i]? = some p → Q i p
 | 0, _ => ⟨[], rfl, fun i p h => by simp at h⟩
 | n + 1, h => by
  obtain ⟨l, hl, hq⟩ := pick_any n (fun i hi => h i (by omega))
  obtain ⟨p, hp⟩ := h n (by omega)
  refine ⟨l ++ [p], by simp [hl], fun i q hi => ?_⟩
  rcases Nat.lt_or_ge i n with h1 | h1
  ·rw [List.getElem?_append_left (by omega)] at hi
   exact hq i q hi
  ·have hlt := (List.getElem?_eq_some_iff.1 hi).1
   rw [List.length_append, List.length_singleton] at hlt
   obtain rfl : i = n := by omega
   rw [List.getElem?_append_right (by omega), hl, Nat.sub_self] at hi
   simp at hi
   subst hi; exact hp
section
variable {H : Type} {enc : TypeId × Value → H} {W : World} {base : Nat} {spare : Nat → Bool} {held : Bool}
theorem sub_field {t : TypeId} {fs : Array Field} {fuel : Nat} {cs : List Value} {x : DataW H × List MemPlace} (ht : Tryz.prog.underlying t = some (.struct fs)) (h : DataW.trod enc Tryz.prog W base spare held fuel t cs = some x) (i : Nat) (f : Field) (hf : fs[i]? = some f) :
    ∃ m y, DataW.trod enc Tryz.prog W base spare held m f.type ((cs.drop f.offset).take (Tryz.prog.cellsOf f.type)) = some y := by
 obtain ⟨xs, n, _, _, _, hl, he⟩ := DataW.trod_struct ht h
 have hi : i < xs.length := by rw [hl]; exact (Array.getElem?_eq_some_iff.1 hf).1
 exact ⟨n, xs[i], (he i f hf).trans (List.getElem?_eq_getElem hi)⟩
theorem leaf_int {fuel : Nat} {c : Value} {x : DataW H × List MemPlace} (h : DataW.trod enc Tryz.prog W base spare held fuel 3 [c] = some x) : ∃ z, c = .int .i64 z := by
 obtain ⟨m, e, _⟩ := DataW.trod_int Tryz.underlying3 h
 simp at e
 exact ⟨m, e⟩
theorem opened_recs {α : Type} {en : α → List Value} {k : Nat} {Φ : α → Prop} (hk : ∀ x, (en x).length = k) (hk0 : 0 < k) {ts te : TypeId} {fuel : Nat} {cs : List Value} {x : DataW H × List MemPlace} (hts : Tryz.prog.underlying ts = some (.slice te)) (hc : Tryz.prog.cellsOf te = k)
    (hel : ∀ m (c' : List Value) y, c'.length = k → DataW.trod enc Tryz.prog W base spare held m te c' = some y → ∃ p, c' = en p ∧ Φ p)
    (h : DataW.trod enc Tryz.prog W base spare held fuel ts cs = some x) : ∃ a n c l, cs = [.slice a n c] ∧ ER en k W a n l ∧ ∀ p ∈ l, Φ p := by
 rcases DataW.trod_slice hts h with ⟨rfl, _⟩ | ⟨a, len, cap, elems, rest, m, _, rfl, _, hb, hl, hm, hlen, hee, _, _⟩
 ·exact ⟨none, 0, 0, [], rfl, ER.nil _ _, fun p hp => by simp at hp⟩
 ·have each : ∀ i, i < len → ∃ p : α, Φ p ∧ ∀ j, j < k → W.cell? ((a.add (i * k)).add j) = (en p)[j]? := by
    intro i hi
    have h1 := hee i hi
    rw [hc, List.getElem?_eq_getElem (by omega), Option.bind_eq_some_iff] at h1
    obtain ⟨cs', hcs, hy⟩ := h1
    have hcl : cs'.length = k := (World.cells?_some hcs).2.1
    obtain ⟨p, rfl, hp⟩ := hel _ cs' _ hcl hy
    exact ⟨p, hp, fun j hj => (World.cells?_some hcs).2.2 j hj⟩
  obtain ⟨l, hll, hq⟩ := pick_any len each
  refine ⟨some a, len, cap, l, rfl, ⟨hll, by rw [ecells_len hk, hll], by unfold maxLen at *; omega, fun hn => ?_⟩, fun p hp => ?_⟩
  ·obtain ⟨b, off, spot⟩ := a
   obtain ⟨p0, hp0⟩ := get_of_lt hll hn
   have hp00 : (en p0)[0]? = some ((en p0)[0]'(by rw [hk]; exact hk0)) := List.getElem?_eq_getElem _
   have h0 := ((hq 0 p0 hp0).2 0 hk0).trans hp00
   have hs : spot = none := by simpa [Addr.add] using World.cell?_spot h0
   subst hs
   rw [Addr.add_lit, Addr.add_lit] at h0
   refine ⟨b, off, rfl, World.block_lt_of_cell? W _ h0, fun j u hu => ?_⟩
   have hj := (List.getElem?_eq_some_iff.1 hu).1
   rw [ecells_len hk] at hj
   have hdm : j = j / k * k + j % k := by rw [Nat.mul_comm]; exact (Nat.div_add_mod j k).symm
   have hjk : j / k < len := by rw [← hll]; exact Nat.div_lt_of_lt_mul (by rw [Nat.mul_comm]; exact hj)
   have hm0 : j % k < k := Nat.mod_lt _ hk0
   obtain ⟨p1, hp1⟩ := get_of_lt hll hjk
   have h1 := (hq _ p1 hp1).2 (j % k) hm0
   have h2 := ecells_get hk hp1 (j % k) hm0
   rw [← hdm] at h2
   rw [h2.symm.trans hu] at h1
   rw [Addr.add_lit, Addr.add_lit] at h1
   rw [show off + j = off + j / k * k + j % k by omega]
   exact h1
  ·obtain ⟨i, hi⟩ := List.mem_iff_getElem?.1 hp
   exact (hq i p hi).1
theorem wf_bd9 {z : Int} (h : (Lit.int .i64 z).wf = true) : -9223372036854775808 ≤ z ∧ z ≤ 9223372036854775807 := by
 have h1 : IntKind.i64.min = -9223372036854775808 := by kernel_rfl
 have h2 : IntKind.i64.max = 9223372036854775807 := by kernel_rfl
 have h3 : (decide (IntKind.i64.min ≤ z) && decide (z ≤ IntKind.i64.max)) = true := h
 rw [h1, h2, Bool.and_eq_true, decide_eq_true_eq, decide_eq_true_eq] at h3
 exact h3
set_option maxRecDepth 100000 in
theorem leaf_intB {fuel : Nat} {c : Value} {x : DataW H × List MemPlace} (h : DataW.trod enc Tryz.prog W base spare held fuel 3 [c] = some x) : ∃ z, c = .int .i64 z ∧ -9223372036854775808 ≤ z ∧ z ≤ 9223372036854775807 := by
 obtain ⟨m, e, _, hw⟩ := DataW.trod_int Tryz.underlying3 h
 simp at e
 exact ⟨m, e, wf_bd9 hw⟩
theorem opened_slice {α : Type} {en : α → List Value} {k : Nat} {Φ : α → Prop} (hk : ∀ x, (en x).length = k) (hk0 : 0 < k) {ts te : TypeId} {r : Reach} {b0 : Nat} {v : Value} {d : DataW H} {p : List MemPlace} (hts : Tryz.prog.underlying ts = some (.slice te)) (hc : Tryz.prog.cellsOf te = k)
    (hel : ∀ m (c' : List Value) y, c'.length = k → DataW.trod enc Tryz.prog W base spare held m te c' = some y → ∃ p, c' = en p ∧ Φ p)
    (hv : Value.okWide Tryz.prog W r b0 ts v) (h : DataW.Trod enc Tryz.prog W base spare held ts v d p) : ∃ l a n c, v = .slice a n c ∧ ER en k W a n l ∧ ∀ p ∈ l, Φ p := by
 obtain ⟨a, n, c, rfl⟩ := okWide_slice hts hv
 obtain ⟨fuel, hf⟩ := h
 obtain ⟨a', n', c', l, hcs, hl, hp⟩ := opened_recs hk hk0 hts hc hel (show DataW.trod enc Tryz.prog W base spare held fuel ts [.slice a n c] = _ from hf)
 simp only [List.cons.injEq, Value.slice.injEq, and_true] at hcs
 obtain ⟨rfl, rfl, rfl⟩ := hcs
 exact ⟨l, a, n, c, rfl, hl, hp⟩
theorem icells_ecells (l : List Int) : ecells (fun p : Int => [Value.int .i64 p]) l = icells l := by
 unfold ecells icells
 induction l with
 | nil => rfl
 | cons x r ih => simp only [List.flatMap_cons, List.map_cons, ih]; rfl
set_option maxRecDepth 100000 in
theorem opened_list {r : Reach} {b0 : Nat} {v : Value} {d : DataW H} {p : List MemPlace} (hv : Value.okWide Tryz.prog W r b0 48 v) (h : DataW.Trod enc Tryz.prog W base spare held 48 v d p) :
    ∃ (l : List Int) (a : Option Addr) (n c : Nat), v = .slice a n c ∧ IntsR W a n l := by
 have hc : Tryz.prog.cellsOf 3 = 1 := by kernel_rfl
 obtain ⟨l, a, n, c, hv', hl, _⟩ := opened_slice (en := fun p : Int => [.int .i64 p]) (k := 1) (Φ := fun _ => True) (fun _ => rfl) (by omega) Tryz.underlying48 hc (fun m c' y hl hy => by
  match c', hl with
  | [a], _ =>
   obtain ⟨x, rfl⟩ := leaf_int hy
   exact ⟨x, rfl, trivial⟩) hv h
 refine ⟨l, a, n, c, hv', ?_⟩
 have := hl.2
 rwa [icells_ecells] at this
set_option maxRecDepth 100000 in
theorem leaf_boolB {fuel : Nat} {c : Value} {x : DataW H × List MemPlace} (h : DataW.trod enc Tryz.prog W base spare held fuel 4 [c] = some x) : ∃ z, c = .bool z := by
 obtain ⟨m, e, _⟩ := DataW.trod_bool Tryz.underlying4 h
 simp at e
 exact ⟨m, e⟩
def W64 (z : Int) : Prop := -9223372036854775808 ≤ z ∧ z ≤ 9223372036854775807
set_option maxRecDepth 100000 in
theorem leaf_brn {fuel : Nat} {c0 c1 : Value} {x : DataW H × List MemPlace} (h : DataW.trod enc Tryz.prog W base spare held fuel 126 [c0, c1] = some x) : ∃ (z0 : Int) (z1 : Int), [c0, c1] = [.int .i64 z0, .int .i64 z1] ∧ W64 z0 ∧ W64 z1 := by
 have n_int : Tryz.prog.cellsOf 3 = 1 := by kernel_rfl
 obtain ⟨m0, y0, e0⟩ := sub_field Tryz.underlying126 h 0 _ rfl
 have e0 : DataW.trod enc Tryz.prog W base spare held m0 3 (([c0, c1].drop 0).take (Tryz.prog.cellsOf 3)) = some y0 := e0
 rw [n_int] at e0
 obtain ⟨z0, r0, b0⟩ := leaf_intB (show DataW.trod enc Tryz.prog W base spare held m0 3 [c0] = _ from e0)
 obtain ⟨m1, y1, e1⟩ := sub_field Tryz.underlying126 h 1 _ rfl
 have e1 : DataW.trod enc Tryz.prog W base spare held m1 3 (([c0, c1].drop 1).take (Tryz.prog.cellsOf 3)) = some y1 := e1
 rw [n_int] at e1
 obtain ⟨z1, r1, b1⟩ := leaf_intB (show DataW.trod enc Tryz.prog W base spare held m1 3 [c1] = _ from e1)
 exact ⟨z0, z1, by rw [r0, r1], b0, b1⟩
set_option maxRecDepth 100000 in
theorem leaf_grd {fuel : Nat} {c0 c1 c2 c3 : Value} {x : DataW H × List MemPlace} (h : DataW.trod enc Tryz.prog W base spare held fuel 77 [c0, c1, c2, c3] = some x) : ∃ (z0 : Int) (z1 : Bool) (z2 : Int) (z3 : Int), [c0, c1, c2, c3] = [.int .i64 z0, .bool z1, .int .i64 z2, .int .i64 z3] ∧ W64 z0 ∧ W64 z2 ∧ W64 z3 := by
 have n_bool : Tryz.prog.cellsOf 4 = 1 := by kernel_rfl
 have n_int : Tryz.prog.cellsOf 3 = 1 := by kernel_rfl
 obtain ⟨m0, y0, e0⟩ := sub_field Tryz.underlying77 h 0 _ rfl
 have e0 : DataW.trod enc Tryz.prog W base spare held m0 3 (([c0, c1, c2, c3].drop 0).take (Tryz.prog.cellsOf 3)) = some y0 := e0
 rw [n_int] at e0
 obtain ⟨z0, r0, b0⟩ := leaf_intB (show DataW.trod enc Tryz.prog W base spare held m0 3 [c0] = _ from e0)
 obtain ⟨m1, y1, e1⟩ := sub_field Tryz.underlying77 h 1 _ rfl
 have e1 : DataW.trod enc Tryz.prog W base spare held m1 4 (([c0, c1, c2, c3].drop 1).take (Tryz.prog.cellsOf 4)) = some y1 := e1
 rw [n_bool] at e1
 obtain ⟨z1, r1⟩ := leaf_boolB (show DataW.trod enc Tryz.prog W base spare held m1 4 [c1] = _ from e1)
 obtain ⟨m2, y2, e2⟩ := sub_field Tryz.underlying77 h 2 _ rfl
 have e2 : DataW.trod enc Tryz.prog W base spare held m2 3 (([c0, c1, c2, c3].drop 2).take (Tryz.prog.cellsOf 3)) = some y2 := e2
 rw [n_int] at e2
 obtain ⟨z2, r2, b2⟩ := leaf_intB (show DataW.trod enc Tryz.prog W base spare held m2 3 [c2] = _ from e2)
 obtain ⟨m3, y3, e3⟩ := sub_field Tryz.underlying77 h 3 _ rfl
 have e3 : DataW.trod enc Tryz.prog W base spare held m3 3 (([c0, c1, c2, c3].drop 3).take (Tryz.prog.cellsOf 3)) = some y3 := e3
 rw [n_int] at e3
 obtain ⟨z3, r3, b3⟩ := leaf_intB (show DataW.trod enc Tryz.prog W base spare held m3 3 [c3] = _ from e3)
 exact ⟨z0, z1, z2, z3, by rw [r0, r1, r2, r3], b0, b2, b3⟩
set_option maxRecDepth 100000 in
theorem leaf_rng {fuel : Nat} {c0 c1 : Value} {x : DataW H × List MemPlace} (h : DataW.trod enc Tryz.prog W base spare held fuel 23 [c0, c1] = some x) : ∃ (z0 : Int) (z1 : Int), [c0, c1] = [.int .i64 z0, .int .i64 z1] ∧ W64 z0 ∧ W64 z1 := by
 have n_int : Tryz.prog.cellsOf 3 = 1 := by kernel_rfl
 obtain ⟨m0, y0, e0⟩ := sub_field Tryz.underlying23 h 0 _ rfl
 have e0 : DataW.trod enc Tryz.prog W base spare held m0 3 (([c0, c1].drop 0).take (Tryz.prog.cellsOf 3)) = some y0 := e0
 rw [n_int] at e0
 obtain ⟨z0, r0, b0⟩ := leaf_intB (show DataW.trod enc Tryz.prog W base spare held m0 3 [c0] = _ from e0)
 obtain ⟨m1, y1, e1⟩ := sub_field Tryz.underlying23 h 1 _ rfl
 have e1 : DataW.trod enc Tryz.prog W base spare held m1 3 (([c0, c1].drop 1).take (Tryz.prog.cellsOf 3)) = some y1 := e1
 rw [n_int] at e1
 obtain ⟨z1, r1, b1⟩ := leaf_intB (show DataW.trod enc Tryz.prog W base spare held m1 3 [c1] = _ from e1)
 exact ⟨z0, z1, by rw [r0, r1], b0, b1⟩
set_option maxRecDepth 100000 in
theorem leaf_lim {fuel : Nat} {c0 c1 c2 c3 c4 c5 : Value} {x : DataW H × List MemPlace} (h : DataW.trod enc Tryz.prog W base spare held fuel 47 [c0, c1, c2, c3, c4, c5] = some x) : ∃ (z0 : Int) (z1 : Int) (z2 : Int) (z3 : Int) (z4 : Int) (z5 : Int), [c0, c1, c2, c3, c4, c5] = [.int .i64 z0, .int .i64 z1, .int .i64 z2, .int .i64 z3, .int .i64 z4, .int .i64 z5] ∧ W64 z0 ∧ W64 z1 ∧ W64 z2 ∧ W64 z3 ∧ W64 z4 ∧ W64 z5 := by
 have n_int : Tryz.prog.cellsOf 3 = 1 := by kernel_rfl
 have n_rng : Tryz.prog.cellsOf 23 = 2 := by kernel_rfl
 obtain ⟨m0, y0, e0⟩ := sub_field Tryz.underlying47 h 0 _ rfl
 have e0 : DataW.trod enc Tryz.prog W base spare held m0 3 (([c0, c1, c2, c3, c4, c5].drop 0).take (Tryz.prog.cellsOf 3)) = some y0 := e0
 rw [n_int] at e0
 obtain ⟨z0, r0, b0⟩ := leaf_intB (show DataW.trod enc Tryz.prog W base spare held m0 3 [c0] = _ from e0)
 obtain ⟨m1, y1, e1⟩ := sub_field Tryz.underlying47 h 1 _ rfl
 have e1 : DataW.trod enc Tryz.prog W base spare held m1 23 (([c0, c1, c2, c3, c4, c5].drop 1).take (Tryz.prog.cellsOf 23)) = some y1 := e1
 rw [n_rng] at e1
 obtain ⟨z1, z2, q1, b1, b2⟩ := leaf_rng (show DataW.trod enc Tryz.prog W base spare held m1 23 [c1, c2] = _ from e1)
 simp only [List.cons.injEq, and_true] at q1
 obtain ⟨r1, r2⟩ := q1
 obtain ⟨m2, y2, e2⟩ := sub_field Tryz.underlying47 h 2 _ rfl
 have e2 : DataW.trod enc Tryz.prog W base spare held m2 3 (([c0, c1, c2, c3, c4, c5].drop 3).take (Tryz.prog.cellsOf 3)) = some y2 := e2
 rw [n_int] at e2
 obtain ⟨z3, r3, b3⟩ := leaf_intB (show DataW.trod enc Tryz.prog W base spare held m2 3 [c3] = _ from e2)
 obtain ⟨m3, y3, e3⟩ := sub_field Tryz.underlying47 h 3 _ rfl
 have e3 : DataW.trod enc Tryz.prog W base spare held m3 3 (([c0, c1, c2, c3, c4, c5].drop 4).take (Tryz.prog.cellsOf 3)) = some y3 := e3
 rw [n_int] at e3
 obtain ⟨z4, r4, b4⟩ := leaf_intB (show DataW.trod enc Tryz.prog W base spare held m3 3 [c4] = _ from e3)
 obtain ⟨m4, y4, e4⟩ := sub_field Tryz.underlying47 h 4 _ rfl
 have e4 : DataW.trod enc Tryz.prog W base spare held m4 3 (([c0, c1, c2, c3, c4, c5].drop 5).take (Tryz.prog.cellsOf 3)) = some y4 := e4
 rw [n_int] at e4
 obtain ⟨z5, r5, b5⟩ := leaf_intB (show DataW.trod enc Tryz.prog W base spare held m4 3 [c5] = _ from e4)
 exact ⟨z0, z1, z2, z3, z4, z5, by rw [r0, r1, r2, r3, r4, r5], b0, b1, b2, b3, b4, b5⟩
set_option maxRecDepth 100000 in
theorem opened_lim {r : Reach} {b0 : Nat} {v : Value} {d : DataW H} {p : List MemPlace} (hv : Value.okWide Tryz.prog W r b0 47 v) (h : DataW.Trod enc Tryz.prog W base spare held 47 v d p) :
    ∃ (z0 : Int) (z1 : Int) (z2 : Int) (z3 : Int) (z4 : Int) (z5 : Int), v = .agg #[.int .i64 z0, .int .i64 z1, .int .i64 z2, .int .i64 z3, .int .i64 z4, .int .i64 z5] ∧ W64 z0 ∧ W64 z1 ∧ W64 z2 ∧ W64 z3 ∧ W64 z4 ∧ W64 z5 := by
 have hk : Tryz.prog.cellsOf 47 = 6 := by kernel_rfl
 obtain ⟨cs, rfl, hsz⟩ := okWide_struct Tryz.underlying47 hv
 obtain ⟨c0, c1, c2, c3, c4, c5, rfl⟩ : ∃ c0 c1 c2 c3 c4 c5, cs = #[c0, c1, c2, c3, c4, c5] := by
  have hs := hsz.trans hk
  obtain ⟨l⟩ := cs
  match l, hs with
  | [c0, c1, c2, c3, c4, c5], _ => exact ⟨c0, c1, c2, c3, c4, c5, rfl⟩
 obtain ⟨fuel, hf⟩ := h
 obtain ⟨z0, z1, z2, z3, z4, z5, q, bb⟩ := leaf_lim (show DataW.trod enc Tryz.prog W base spare held fuel 47 [c0, c1, c2, c3, c4, c5] = _ from hf)
 simp only [List.cons.injEq, and_true] at q
 obtain ⟨rfl, rfl, rfl, rfl, rfl, rfl⟩ := q
 exact ⟨z0, z1, z2, z3, z4, z5, rfl, bb⟩
set_option maxRecDepth 100000 in
theorem leaf_brs {fuel : Nat} {c : Value} {x : DataW H × List MemPlace} (h : DataW.trod enc Tryz.prog W base spare held fuel 42 [c] = some x) : ∃ (l : List Brn) (a : Option Addr) (n cp : Nat), c = .slice a n cp ∧ BrR W a n l := by
 have hc : Tryz.prog.cellsOf 126 = 2 := by kernel_rfl
 obtain ⟨a, n, cp, l, hcs, hl, _⟩ := opened_recs (Φ := fun _ => True) eB_len (by omega) Tryz.underlying42 hc (fun m c' y hl hy => by
  match c', hl with
  | [a, b], _ =>
   obtain ⟨z0, z1, q, _, _⟩ := leaf_brn hy
   exact ⟨⟨z0, z1⟩, q, trivial⟩) h
 simp only [List.cons.injEq, and_true] at hcs
 exact ⟨l, a, n, cp, hcs, hl⟩
set_option maxRecDepth 100000 in
theorem leaf_grs {fuel : Nat} {c : Value} {x : DataW H × List MemPlace} (h : DataW.trod enc Tryz.prog W base spare held fuel 43 [c] = some x) : ∃ (l : List Grd) (a : Option Addr) (n cp : Nat), c = .slice a n cp ∧ GrR W a n l := by
 have hc : Tryz.prog.cellsOf 77 = 4 := by kernel_rfl
 obtain ⟨a, n, cp, l, hcs, hl, _⟩ := opened_recs (Φ := fun _ => True) eG_len (by omega) Tryz.underlying43 hc (fun m c' y hl hy => by
  match c', hl with
  | [a, b, c, d], _ =>
   obtain ⟨z0, z1, z2, z3, q, _, _, _⟩ := leaf_grd hy
   exact ⟨⟨z0, z1, z2, z3⟩, q, trivial⟩) h
 simp only [List.cons.injEq, and_true] at hcs
 exact ⟨l, a, n, cp, hcs, hl⟩
set_option maxRecDepth 100000 in
theorem opened_machine {r : Reach} {b0 : Nat} {v : Value} {d : DataW H} {p : List MemPlace} (hv : Value.okWide Tryz.prog W r b0 45 v) (h : DataW.Trod enc Tryz.prog W base spare held 45 v d p) :
    ∃ (m : Mac) (ab ag : Option Addr) (nb cb ng cg : Nat), v = .agg #[.slice ab nb cb, .int .i64 m.st, .slice ag ng cg] ∧ BrR W ab nb m.br ∧ GrR W ag ng m.gs := by
 have hk : Tryz.prog.cellsOf 45 = 3 := by kernel_rfl
 have h0 : Tryz.prog.cellsOf 42 = 1 := by kernel_rfl
 have h1 : Tryz.prog.cellsOf 3 = 1 := by kernel_rfl
 have h2 : Tryz.prog.cellsOf 43 = 1 := by kernel_rfl
 obtain ⟨cs, rfl, hsz⟩ := okWide_struct Tryz.underlying45 hv
 obtain ⟨a, b, c, rfl⟩ : ∃ a b c, cs = #[a, b, c] := by
  have hs := hsz.trans hk
  obtain ⟨l⟩ := cs
  match l, hs with
  | [a, b, c], _ => exact ⟨a, b, c, rfl⟩
 obtain ⟨fuel, hf⟩ := h
 have hf := show DataW.trod enc Tryz.prog W base spare held fuel 45 [a, b, c] = _ from hf
 obtain ⟨m0, y0, e0⟩ := sub_field Tryz.underlying45 hf 0 _ rfl
 obtain ⟨m1, y1, e1⟩ := sub_field Tryz.underlying45 hf 1 _ rfl
 obtain ⟨m2, y2, e2⟩ := sub_field Tryz.underlying45 hf 2 _ rfl
 have e0 : DataW.trod enc Tryz.prog W base spare held m0 42 (([a, b, c].drop 0).take (Tryz.prog.cellsOf 42)) = some y0 := e0
 have e1 : DataW.trod enc Tryz.prog W base spare held m1 3 (([a, b, c].drop 1).take (Tryz.prog.cellsOf 3)) = some y1 := e1
 have e2 : DataW.trod enc Tryz.prog W base spare held m2 43 (([a, b, c].drop 2).take (Tryz.prog.cellsOf 43)) = some y2 := e2
 rw [h0] at e0
 rw [h1] at e1
 rw [h2] at e2
 obtain ⟨l, ab, nb, cb, rfl, hb⟩ := leaf_brs (show DataW.trod enc Tryz.prog W base spare held m0 42 [a] = _ from e0)
 obtain ⟨z, rfl⟩ := leaf_int (show DataW.trod enc Tryz.prog W base spare held m1 3 [b] = _ from e1)
 obtain ⟨g, ag, ng, cg, rfl, hg⟩ := leaf_grs (show DataW.trod enc Tryz.prog W base spare held m2 43 [c] = _ from e2)
 exact ⟨⟨l, z, g⟩, ab, ag, nb, cb, ng, cg, rfl, hb, hg⟩
end
end Go.Proofs.YtdjinmieogpgcaaGreat
