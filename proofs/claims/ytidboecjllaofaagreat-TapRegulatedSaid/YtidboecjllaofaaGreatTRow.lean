import Derived.Deep.WholeRow
import Derived.Test.YtidboecjllaofaaGreatMD
import Derived.Test.YtidboecjllaofaaGreatMI
/- A whole row of a block, by value: loads and stores that do not look into it. Plain laws of the model. -/
namespace Go.Proofs.YtidboecjllaofaaGreat
open Go.RowKit
set_option linter.unusedVariables false

section
variable {P : Program}
theorem ldrow {w : World} {g n : Nat} {c : Array Value} {t : TypeId} (hg : w.heap[g]? = some (.cells c t)) (hn : c.size = n) : (loadCellsFrom ⟨g, 0, none⟩ 0 n #[]).run P w = .ok c w := by
  subst hn
  have := run_loadCells_list (P := P) w ⟨g, 0, none⟩ c.toList (fun j v hv => by
    have hadd : (⟨g, 0, none⟩ : Addr).add j = ⟨g, j, none⟩ := by unfold Addr.add; split <;> simp_all
    rw [hadd, cell_of_row _ _ j c t (0, 0) hg]
    simpa using hv)
  simpa [loadCells] using this
theorem strow {w : World} {g : Nat} {c c' : Array Value} {t : TypeId} (hg : w.heap[g]? = some (.cells c t)) (ho : c.size = c'.size) (h1 : ∀ v ∈ c'.toList, v.oneCell' = true) :
    (storeCells ⟨g, 0, none⟩ c'.toList 0).run P w = .ok () (w.setRow g c') := by
  have := run_storeCells_from (P := P) g t c'.toList 0 c w hg (by simp; omega) h1
  simpa using this
theorem strow_new {w : World} {c c' : Array Value} {t : TypeId} (ho : c.size = c'.size) (h1 : ∀ v ∈ c'.toList, v.oneCell' = true) :
    (storeCells ⟨w.heap.size, 0, none⟩ c'.toList 0).run P (w.alloc (.cells c t)) = .ok () (w.alloc (.cells c' t)) := by
  rw [strow (heap_alloc_last w _) ho h1, World.setRow_alloc_new]
theorem ldrow_cells {w : World} {g n : Nat} {c : Array Value} (hc : ∀ j : Nat, j < c.size → w.cell? ⟨g, j, none⟩ = c[j]?) (hn : c.size = n) : (loadCellsFrom ⟨g, 0, none⟩ 0 n #[]).run P w = .ok c w := by
  subst hn
  have := run_loadCells_list (P := P) w ⟨g, 0, none⟩ c.toList (fun j v hv => by
    have hadd : (⟨g, 0, none⟩ : Addr).add j = ⟨g, j, none⟩ := by unfold Addr.add; split <;> simp_all
    have hj : j < c.size := by have := (List.getElem?_eq_some_iff.1 hv).1; simpa using this
    rw [hadd, hc j hj]
    simpa using hv)
  simpa [loadCells] using this
/-- A row, in any later world. -/
theorem ldrow_later {B b0 : Nat} {w : World} {g n : Nat} {c : Array Value} {t : TypeId} (hg : w.heap[g]? = some (.cells c t)) (hn : c.size = n) (hB : g < B) (hne : g ≠ b0) (u : LaterX B b0 w) : (loadCellsFrom ⟨g, 0, none⟩ 0 n #[]).run P u.world = .ok c u.world :=
  ldrow_cells (fun j _ => by rw [u.same g j hB hne, cell_of_row w g j c t (0, 0) hg]) hn
/-- A row by value, out of cells that stand. -/
theorem ldvar_cells {w : World} {g ty : Nat} {c : Array Value} {d : TypeDesc} (hc : ∀ j : Nat, j < c.size → w.cell? ⟨g, j, none⟩ = c[j]?)
    (hu : P.underlying ty = some d) (hd : (match d with | .struct _ | .array _ _ => true | _ => false) = true) (hi : (P.info? ty).map (·.size) = some c.size) :
    (loadVar ty ⟨g, 0, none⟩).run P w = .ok (.agg c) w := by
  have hl : (loadCells ⟨g, 0, none⟩ c.toList.length).run P w = .ok c.toList.toArray w :=
    run_loadCells_list (P := P) w ⟨g, 0, none⟩ c.toList (fun j v hv => by
      have hadd : (⟨g, 0, none⟩ : Addr).add j = ⟨g, j, none⟩ := by unfold Addr.add; split <;> simp_all
      have hj : j < c.size := by have := (List.getElem?_eq_some_iff.1 hv).1; simpa using this
      rw [hadd, hc j hj]
      simpa using hv)
  cases hq : P.info? ty with
  | none => simp [hq] at hi
  | some i =>
    have hs : i.size = c.size := by simpa [hq] using hi
    have hagg : (isAgg ty).run P w = .ok true w := by
      unfold isAgg
      rw [Sem.run_bind, run_underlying hu w]
      cases d <;> simp_all
    simp only [Array.length_toList, Array.toArray_toList] at hl
    simp [loadVar, Sem.run_bind, hagg, sizeOf, typeInfo, hq, hs, hl]
theorem ldvar_later {B b0 : Nat} {w : World} {g ty : Nat} {c : Array Value} {t : TypeId} {d : TypeDesc} (hg : w.heap[g]? = some (.cells c t)) (hB : g < B) (hne : g ≠ b0)
    (hu : P.underlying ty = some d) (hd : (match d with | .struct _ | .array _ _ => true | _ => false) = true) (hi : (P.info? ty).map (·.size) = some c.size) (u : LaterX B b0 w) :
    (loadVar ty ⟨g, 0, none⟩).run P u.world = .ok (.agg c) u.world :=
  ldvar_cells (fun j _ => by rw [u.same g j hB hne, cell_of_row w g j c t (0, 0) hg]) hu hd hi
/-- A row by value, taken first in a region that draws its order. -/
theorem wpQuiet_row {ops : Array Oper} {C : World → Prop} {Q : Act → Prop} {a : Act} {o : Oper} {rest : List Oper} (hgd : o.guard = none) (ty : TypeId) (x : Operand) (ho : o.op = .load ty x)
    (g : Nat) (hx : a.eval x = .pointer (some ⟨g, 0, none⟩)) (c : Array Value) (hl : ∀ w, C w → (loadVar ty ⟨g, 0, none⟩).run P w = .ok (.agg c) w) (h : wpQuiet P ops C Q rest (a.put o.dst (.agg c))) : wpQuiet P ops C Q (o :: rest) a := by
  unfold wpQuiet
  rw [if_pos (by simp [Region.wanted, hgd])]
  refine ⟨_, fun w hw => ?_, h⟩
  unfold Oper.quietAt execOp
  simp only [ho, hx, Instr.loadAt, Instr.sureAddr, Sem.run_bind, Sem.run_pure, Result.andThen_ok, hl w hw]
  exact ⟨rfl, rfl⟩
theorem below_setRow {B X : Nat} {w0 w : World} (h : Below B w0 w) (hX : B ≤ X) (c : Array Value) : Below B w0 (w.setRow X c) :=
  h.trans ⟨rfl, rfl, rfl, by rw [setRow_size]; exact Nat.le_refl _, fun k hk => setRow_other w X k c (by omega)⟩
theorem sameX_setRow {B b0 : Nat} {w w1 : World} (h : SameX B b0 w w1) (c : Array Value) : SameX B b0 w (w1.setRow b0 c) := fun b o hb hne => by
  rw [cell_setRow_other w1 b0 c _ (by exact hne)]; exact h b o hb hne
theorem mapG_setRow {α : Type} {K : TypeId} {kl : α → Lit} {ok : α → Prop} {w : World} {b n X : Nat} {t : TypeId} {f : α → Option Value} {c : Array Value} (h : MapG P K kl ok w b n f) (hx : w.heap[X]? = some (.cells c t)) (c' : Array Value) : MapG P K kl ok (w.setRow X c') b n f := by
  refine h.other fun o ho hc hl => ?_
  rw [setRow_other w X b c' (fun e => ?_)]
  · exact ho
  · subst e; rw [hx] at ho; exact hc c t _ (Option.some.inj ho).symm
end
end Go.Proofs.YtidboecjllaofaaGreat
