import Derived.Test.YtkphbibonagkfaaProg
import Derived.ChangeSlices
import Derived.Lib.SmallJoins
import Derived.ProofKit
import Derived.OpenShut
import Derived.ChangeOld
import Derived.Below
import Derived.Test.YtkphbibonagkfaaMDAnsP
import Derived.Test.YtkphbibonagkfaaMRef1
import Derived.Test.YtkphbibonagkfaaMRoundTr
/- What grids, cells, sensors and sections that come in hold. -/
namespace Go.Proofs.Ytkphbibonagkfaa
open Go.ChangeShapes Go.WideShapes Go.ChangeAt Go.RowKit
set_option linter.unusedVariables false

section
variable {H : Type} {enc : TypeId × Value → H} {W : World} {base : Nat} {spare : Nat → Bool} {held : Bool}
theorem sub_field {t : TypeId} {fs : Array Field} {fuel : Nat} {cs : List Value} {x : DataW H × List MemPlace} (ht : Try.prog.underlying t = some (.struct fs)) (h : DataW.trod enc Try.prog W base spare held fuel t cs = some x) (i : Nat) (f : Field) (hf : fs[i]? = some f) :
    ∃ m y, DataW.trod enc Try.prog W base spare held m f.type ((cs.drop f.offset).take (Try.prog.cellsOf f.type)) = some y := by
  obtain ⟨xs, n, _, _, _, hl, he⟩ := DataW.trod_struct ht h
  have hi : i < xs.length := by rw [hl]; exact (Array.getElem?_eq_some_iff.1 hf).1
  exact ⟨n, xs[i], (he i f hf).trans (List.getElem?_eq_getElem hi)⟩
theorem sub_elem {t e : TypeId} {n : Nat} {fuel : Nat} {cs : List Value} {x : DataW H × List MemPlace} (ht : Try.prog.underlying t = some (.array n e)) (h : DataW.trod enc Try.prog W base spare held fuel t cs = some x) (i : Nat) (hi : i < n) :
    ∃ m y, DataW.trod enc Try.prog W base spare held m e ((cs.drop (i * Try.prog.cellsOf e)).take (Try.prog.cellsOf e)) = some y := by
  obtain ⟨xs, m, _, _, _, hl, he⟩ := DataW.trod_array ht h
  exact ⟨m, xs[i]'(by omega), (he i hi).trans (List.getElem?_eq_getElem (by omega))⟩
theorem leaf_int {fuel : Nat} {c : Value} {x : DataW H × List MemPlace} (h : DataW.trod enc Try.prog W base spare held fuel 3 [c] = some x) : ∃ z, c = .int .i64 z := by
  obtain ⟨m, e, _⟩ := DataW.trod_int Try.underlying3 h
  simp at e
  exact ⟨m, e⟩
set_option maxRecDepth 100000 in
theorem leaf_arr3 {fuel : Nat} {a b c : Value} {x : DataW H × List MemPlace} (h : DataW.trod enc Try.prog W base spare held fuel 22 [a, b, c] = some x) : ∃ p : T3, a = .int .i64 p.x ∧ b = .int .i64 p.y ∧ c = .int .i64 p.z := by
  have hc : Try.prog.cellsOf 3 = 1 := by kernel_rfl
  obtain ⟨m0, y0, h0⟩ := sub_elem Try.underlying22 h 0 (by omega)
  obtain ⟨m1, y1, h1⟩ := sub_elem Try.underlying22 h 1 (by omega)
  obtain ⟨m2, y2, h2⟩ := sub_elem Try.underlying22 h 2 (by omega)
  rw [hc] at h0 h1 h2
  obtain ⟨x, rfl⟩ := leaf_int h0
  obtain ⟨y, rfl⟩ := leaf_int h1
  obtain ⟨z, rfl⟩ := leaf_int h2
  exact ⟨⟨x, y, z⟩, rfl, rfl, rfl⟩
theorem array3' {cs : Array Value} (h : cs.size = 3) : ∃ a b c, cs = #[a, b, c] := by
  obtain ⟨l⟩ := cs
  match l, h with
  | [a, b, c], _ => exact ⟨a, b, c, rfl⟩
theorem array7' {cs : Array Value} (h : cs.size = 7) : ∃ a b c d e f g, cs = #[a, b, c, d, e, f, g] := by
  obtain ⟨l⟩ := cs
  match l, h with
  | [a, b, c, d, e, f, g], _ => exact ⟨a, b, c, d, e, f, g, rfl⟩
set_option maxRecDepth 100000 in
theorem opened_cell {r : Reach} {b0 : Nat} {v : Value} {d : DataW H} {p : List MemPlace} (hv : Value.okWide Try.prog W r b0 22 v) (h : DataW.Trod enc Try.prog W base spare held 22 v d p) : ∃ c : T3, v = .agg #[.int .i64 c.x, .int .i64 c.y, .int .i64 c.z] := by
  have hu : Try.prog.underlying 22 = some (.array 3 3) := Try.underlying22
  have hk : Try.prog.cellsOf 22 = 3 := by kernel_rfl
  simp only [Value.okWide, hu] at hv
  obtain ⟨cs, rfl, hs, _⟩ := hv
  obtain ⟨a, b, c, rfl⟩ := array3' (hs.trans hk)
  obtain ⟨fuel, hf⟩ := h
  obtain ⟨p, rfl, rfl, rfl⟩ := leaf_arr3 (show DataW.trod enc Try.prog W base spare held fuel 22 [a, b, c] = _ from hf)
  exact ⟨p, rfl⟩
set_option maxRecDepth 100000 in
theorem opened_grid {r : Reach} {b0 : Nat} {v : Value} {d : DataW H} {p : List MemPlace} (hv : Value.okWide Try.prog W r b0 24 v) (h : DataW.Trod enc Try.prog W base spare held 24 v d p) :
    ∃ g : Gri, v = .agg #[.int .i64 g.f.x, .int .i64 g.f.y, .int .i64 g.f.z, .int .i64 g.st, .int .i64 g.c.x, .int .i64 g.c.y, .int .i64 g.c.z] := by
  have hk : Try.prog.cellsOf 24 = 7 := by kernel_rfl
  have hc : Try.prog.cellsOf 3 = 1 := by kernel_rfl
  have h3 : Try.prog.cellsOf 22 = 3 := by kernel_rfl
  obtain ⟨cs, rfl, hsz⟩ := okWide_struct Try.underlying24 hv
  obtain ⟨a, b, c, d, e, f, g, rfl⟩ := array7' (hsz.trans hk)
  obtain ⟨fuel, hf⟩ := h
  have hf := show DataW.trod enc Try.prog W base spare held fuel 24 [a, b, c, d, e, f, g] = _ from hf
  obtain ⟨m0, y0, h0⟩ := sub_field Try.underlying24 hf 0 _ rfl
  obtain ⟨m1, y1, h1⟩ := sub_field Try.underlying24 hf 1 _ rfl
  obtain ⟨m2, y2, h2⟩ := sub_field Try.underlying24 hf 2 _ rfl
  have k0 : DataW.trod enc Try.prog W base spare held m0 22 (([a, b, c, d, e, f, g].drop 0).take (Try.prog.cellsOf 22)) = some y0 := h0
  have k1 : DataW.trod enc Try.prog W base spare held m1 3 (([a, b, c, d, e, f, g].drop 3).take (Try.prog.cellsOf 3)) = some y1 := h1
  have k2 : DataW.trod enc Try.prog W base spare held m2 22 (([a, b, c, d, e, f, g].drop 4).take (Try.prog.cellsOf 22)) = some y2 := h2
  rw [h3] at k0 k2
  rw [hc] at k1
  obtain ⟨p, rfl, rfl, rfl⟩ := leaf_arr3 (show DataW.trod enc Try.prog W base spare held m0 22 [a, b, c] = _ from k0)
  obtain ⟨s, rfl⟩ := leaf_int (show DataW.trod enc Try.prog W base spare held m1 3 [d] = _ from k1)
  obtain ⟨q, rfl, rfl, rfl⟩ := leaf_arr3 (show DataW.trod enc Try.prog W base spare held m2 22 [e, f, g] = _ from k2)
  exact ⟨⟨p, s, q⟩, rfl⟩
end
end Go.Proofs.Ytkphbibonagkfaa
