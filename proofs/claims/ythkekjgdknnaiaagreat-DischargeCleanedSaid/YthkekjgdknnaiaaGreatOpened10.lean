import Derived.Test.YthkekjgdknnaiaaGreatDSer
import Derived.Test.YthkekjgdknnaiaaGreatOpened9
/- What series and ranges that come in hold. -/
namespace Go.Proofs.YthkekjgdknnaiaaGreat
open Go.ChangeShapes Go.WideShapes Go.ChangeAt Go.RowKit
set_option linter.unusedVariables false

section
variable {H : Type} {enc : TypeId × Value → H} {W : World} {base : Nat} {spare : Nat → Bool} {held : Bool}
theorem array8' {cs : Array Value} (h : cs.size = 8) : ∃ a b c d e f g i, cs = #[a, b, c, d, e, f, g, i] := by
  obtain ⟨l⟩ := cs
  match l, h with
  | [a, b, c, d, e, f, g, i], _ => exact ⟨a, b, c, d, e, f, g, i, rfl⟩
set_option maxRecDepth 100000 in
theorem leaf_fracB {fuel : Nat} {a b : Value} {x : DataW H × List MemPlace} (h : DataW.trod enc Tryz.prog W base spare held fuel 51 [a, b] = some x) :
    ∃ u v : Int, a = .int .i64 u ∧ b = .int .i64 v ∧ (-9223372036854775808 ≤ u ∧ u ≤ 9223372036854775807) ∧ (-9223372036854775808 ≤ v ∧ v ≤ 9223372036854775807) := by
  have hc : Tryz.prog.cellsOf 3 = 1 := by kernel_rfl
  obtain ⟨m0, y0, e0⟩ := sub_field Tryz.underlying51 h 0 _ rfl
  obtain ⟨m1, y1, e1⟩ := sub_field Tryz.underlying51 h 1 _ rfl
  have e0 : DataW.trod enc Tryz.prog W base spare held m0 3 (([a, b].drop 0).take (Tryz.prog.cellsOf 3)) = some y0 := e0
  have e1 : DataW.trod enc Tryz.prog W base spare held m1 3 (([a, b].drop 1).take (Tryz.prog.cellsOf 3)) = some y1 := e1
  rw [hc] at e0 e1
  obtain ⟨u, rfl, hu⟩ := leaf_intB (show DataW.trod enc Tryz.prog W base spare held m0 3 [a] = _ from e0)
  obtain ⟨v, rfl, hv⟩ := leaf_intB (show DataW.trod enc Tryz.prog W base spare held m1 3 [b] = _ from e1)
  exact ⟨u, v, rfl, rfl, hu, hv⟩
set_option maxRecDepth 100000 in
theorem opened_series {r : Reach} {b0 : Nat} {v : Value} {d : DataW H} {p : List MemPlace} (hv : Value.okWide Tryz.prog W r b0 56 v) (h : DataW.Trod enc Tryz.prog W base spare held 56 v d p) :
    ∃ (s : Ser) (a : Option Addr) (n c : Nat), v = .agg #[.string s.nm, .int .i64 s.per, .int .i64 s.least, .int .i64 s.a, .int .i64 s.b, .int .i64 s.c, .int .i64 s.d, .slice a n c] ∧ SerW s ∧ T3R W a n s.l := by
  have hk : Tryz.prog.cellsOf 56 = 8 := by kernel_rfl
  have h1 : Tryz.prog.cellsOf 9 = 1 := by kernel_rfl
  have h2 : Tryz.prog.cellsOf 3 = 1 := by kernel_rfl
  have h4 : Tryz.prog.cellsOf 53 = 4 := by kernel_rfl
  have hf2 : Tryz.prog.cellsOf 51 = 2 := by kernel_rfl
  have hs1 : Tryz.prog.cellsOf 54 = 1 := by kernel_rfl
  have h3 : Tryz.prog.cellsOf 127 = 3 := by kernel_rfl
  obtain ⟨cs, rfl, hsz⟩ := okWide_struct Tryz.underlying56 hv
  obtain ⟨x0, x1, x2, x3, x4, x5, x6, x7, rfl⟩ := array8' (hsz.trans hk)
  obtain ⟨fuel, hf⟩ := h
  have hf := show DataW.trod enc Tryz.prog W base spare held fuel 56 [x0, x1, x2, x3, x4, x5, x6, x7] = _ from hf
  obtain ⟨m0, y0, e0⟩ := sub_field Tryz.underlying56 hf 0 _ rfl
  obtain ⟨m1, y1, e1⟩ := sub_field Tryz.underlying56 hf 1 _ rfl
  obtain ⟨m2, y2, e2⟩ := sub_field Tryz.underlying56 hf 2 _ rfl
  obtain ⟨m3, y3, e3'⟩ := sub_field Tryz.underlying56 hf 3 _ rfl
  obtain ⟨m4, y4, e4⟩ := sub_field Tryz.underlying56 hf 4 _ rfl
  have e0 : DataW.trod enc Tryz.prog W base spare held m0 9 (([x0, x1, x2, x3, x4, x5, x6, x7].drop 0).take (Tryz.prog.cellsOf 9)) = some y0 := e0
  have e1 : DataW.trod enc Tryz.prog W base spare held m1 3 (([x0, x1, x2, x3, x4, x5, x6, x7].drop 1).take (Tryz.prog.cellsOf 3)) = some y1 := e1
  have e2 : DataW.trod enc Tryz.prog W base spare held m2 3 (([x0, x1, x2, x3, x4, x5, x6, x7].drop 2).take (Tryz.prog.cellsOf 3)) = some y2 := e2
  have e3' : DataW.trod enc Tryz.prog W base spare held m3 53 (([x0, x1, x2, x3, x4, x5, x6, x7].drop 3).take (Tryz.prog.cellsOf 53)) = some y3 := e3'
  have e4 : DataW.trod enc Tryz.prog W base spare held m4 54 (([x0, x1, x2, x3, x4, x5, x6, x7].drop 7).take (Tryz.prog.cellsOf 54)) = some y4 := e4
  rw [h1] at e0
  rw [h2] at e1 e2
  rw [h4] at e3'
  rw [hs1] at e4
  obtain ⟨nm, q0, _, hnm⟩ := DataW.trod_string Tryz.underlying9 (show DataW.trod enc Tryz.prog W base spare held m0 9 [x0] = _ from e0)
  simp only [List.cons.injEq, and_true] at q0
  subst q0
  obtain ⟨per, rfl, _⟩ := leaf_intB (show DataW.trod enc Tryz.prog W base spare held m1 3 [x1] = _ from e1)
  obtain ⟨least, rfl, _⟩ := leaf_intB (show DataW.trod enc Tryz.prog W base spare held m2 3 [x2] = _ from e2)
  have e3' : DataW.trod enc Tryz.prog W base spare held m3 53 [x3, x4, x5, x6] = some y3 := e3'
  obtain ⟨m5, y5, e5'⟩ := sub_field Tryz.underlying53 e3' 0 _ rfl
  obtain ⟨m6, y6, e6⟩ := sub_field Tryz.underlying53 e3' 1 _ rfl
  have e5' : DataW.trod enc Tryz.prog W base spare held m5 51 (([x3, x4, x5, x6].drop 0).take (Tryz.prog.cellsOf 51)) = some y5 := e5'
  have e6 : DataW.trod enc Tryz.prog W base spare held m6 51 (([x3, x4, x5, x6].drop 2).take (Tryz.prog.cellsOf 51)) = some y6 := e6
  rw [hf2] at e5' e6
  obtain ⟨a, b, rfl, rfl, ha, hb⟩ := leaf_fracB (show DataW.trod enc Tryz.prog W base spare held m5 51 [x3, x4] = _ from e5')
  obtain ⟨c, d, rfl, rfl, hc, hd⟩ := leaf_fracB (show DataW.trod enc Tryz.prog W base spare held m6 51 [x5, x6] = _ from e6)
  obtain ⟨a', n, c', l, hcs, hl, _⟩ := opened_recs (Φ := fun _ => True) e3_len (by omega) Tryz.underlying54 h3 (leaf_three Tryz.underlying127 rfl rfl rfl rfl rfl rfl) (show DataW.trod enc Tryz.prog W base spare held m4 54 [x7] = _ from e4)
  simp only [List.cons.injEq, and_true] at hcs
  subst hcs
  exact ⟨⟨nm, per, least, a, b, c, d, l⟩, a', n, c', rfl, ⟨hnm, ha, hb.2, hc, hd.2⟩, hl⟩
set_option maxRecDepth 100000 in
theorem opened_range {r : Reach} {b0 : Nat} {v : Value} {d : DataW H} {p : List MemPlace} (hv : Value.okWide Tryz.prog W r b0 58 v) (h : DataW.Trod enc Tryz.prog W base spare held 58 v d p) :
    ∃ x y : Int, v = .agg #[.int .i64 x, .int .i64 y] ∧ (-9223372036854775808 ≤ x ∧ x ≤ 9223372036854775807) ∧ -9223372036854775808 ≤ y ∧ y ≤ 9223372036854775807 := by
  have hc : Tryz.prog.cellsOf 3 = 1 := by kernel_rfl
  have h2 : Tryz.prog.cellsOf 58 = 2 := by kernel_rfl
  obtain ⟨cs, rfl, hsz⟩ := okWide_struct Tryz.underlying58 hv
  obtain ⟨a, b, rfl⟩ : ∃ a b, cs = #[a, b] := by
    have hs := hsz.trans h2
    obtain ⟨l⟩ := cs
    match l, hs with
    | [a, b], _ => exact ⟨a, b, rfl⟩
  obtain ⟨fuel, hf⟩ := h
  have hf := show DataW.trod enc Tryz.prog W base spare held fuel 58 [a, b] = _ from hf
  obtain ⟨m0, y0, e0⟩ := sub_field Tryz.underlying58 hf 0 _ rfl
  obtain ⟨m1, y1, e1⟩ := sub_field Tryz.underlying58 hf 1 _ rfl
  have e0 : DataW.trod enc Tryz.prog W base spare held m0 3 (([a, b].drop 0).take (Tryz.prog.cellsOf 3)) = some y0 := e0
  have e1 : DataW.trod enc Tryz.prog W base spare held m1 3 (([a, b].drop 1).take (Tryz.prog.cellsOf 3)) = some y1 := e1
  rw [hc] at e0 e1
  obtain ⟨x, rfl, hx⟩ := leaf_intB (show DataW.trod enc Tryz.prog W base spare held m0 3 [a] = _ from e0)
  obtain ⟨y, rfl, hy⟩ := leaf_intB (show DataW.trod enc Tryz.prog W base spare held m1 3 [b] = _ from e1)
  exact ⟨x, y, rfl, hx, hy⟩
set_option maxRecDepth 100000 in
theorem opened_two {r : Reach} {b0 : Nat} {v : Value} {d : DataW H} {p : List MemPlace} (hv : Value.okWide Tryz.prog W r b0 84 v) (h : DataW.Trod enc Tryz.prog W base spare held 84 v d p) : ∃ x y : Int, v = .agg #[.int .i64 x, .int .i64 y] := by
  have hu : Tryz.prog.underlying 84 = some (.array 2 3) := Tryz.underlying84
  have hk : Tryz.prog.cellsOf 84 = 2 := by kernel_rfl
  have hc : Tryz.prog.cellsOf 3 = 1 := by kernel_rfl
  simp only [Value.okWide, hu] at hv
  obtain ⟨cs, rfl, hs, _⟩ := hv
  obtain ⟨a, b, rfl⟩ : ∃ a b, cs = #[a, b] := by
    have hs := hs.trans hk
    obtain ⟨l⟩ := cs
    match l, hs with
    | [a, b], _ => exact ⟨a, b, rfl⟩
  obtain ⟨fuel, hf⟩ := h
  have hf := show DataW.trod enc Tryz.prog W base spare held fuel 84 [a, b] = _ from hf
  obtain ⟨m0, y0, h0⟩ := sub_elem Tryz.underlying84 hf 0 (by omega)
  obtain ⟨m1, y1, h1⟩ := sub_elem Tryz.underlying84 hf 1 (by omega)
  rw [hc] at h0 h1
  obtain ⟨x, rfl⟩ := leaf_int h0
  obtain ⟨y, rfl⟩ := leaf_int h1
  exact ⟨x, y, rfl⟩
end
end Go.Proofs.YthkekjgdknnaiaaGreat
