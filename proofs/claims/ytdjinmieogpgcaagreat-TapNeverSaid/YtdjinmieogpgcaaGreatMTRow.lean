import Derived.Deep.WholeRow
import Derived.Laws.StructEq
import Derived.Test.YtdjinmieogpgcaaGreatMTRst
/- A whole row of a block, by value: loads and stores that do not look into it. Plain laws of the model. -/
namespace Go.Proofs.YtdjinmieogpgcaaGreat
open Go.RowKit
set_option linter.unusedVariables false
section
variable {P : Program}
theorem strow {w : World} {g : Nat} {c c' : Array Value} {t : TypeId} (hg : w.heap[g]? = some (.cells c t)) (ho : c.size = c'.size) (h1 : ∀ v ∈ c'.toList, v.oneCell' = true) :
    (storeCells ⟨g, 0, none⟩ c'.toList 0).run P w = .ok () (w.setRow g c') := by
 have := run_storeCells_from (P := P) g t c'.toList 0 c w hg (by simp; omega) h1
 simpa using this
theorem strow_new {w : World} {c c' : Array Value} {t : TypeId} (ho : c.size = c'.size) (h1 : ∀ v ∈ c'.toList, v.oneCell' = true) :
    (storeCells ⟨w.heap.size, 0, none⟩ c'.toList 0).run P (w.alloc (.cells c t)) = .ok () (w.alloc (.cells c' t)) := by
 rw [strow (heap_alloc_last w _) ho h1, World.setRow_alloc_new]
theorem ldvar_cells {w : World} {g ty : Nat} {c : Array Value} {d : TypeDesc} (hc : ∀ j : Nat, j < c.size → w.cell? ⟨g, j, none⟩ = c[j]?)
    (hu : P.underlying ty = some d) (hd : (match d with | .struct _ | .array _ _ => true | _ => false) = true) (hi : (P.info? ty).map (·.size) = some c.size) :
    (loadVar ty ⟨g, 0, none⟩).run P w = .ok (.agg c) w := by
 have hl : (loadCells ⟨g, 0, none⟩ c.toList.length).run P w = .ok c.toList.toArray w :=
  run_loadCells_list (P := P) w ⟨g, 0, none⟩ c.toList (fun j v hv => by
   have hadd : (⟨g, 0, none⟩ : Addr).add j = ⟨g, j, none⟩ := by unfold Addr.add; split <;> simp_all
   have hj : j < c.size := by have := (List.getElem?_eq_some_iff.1 hv).1; simpa using this
   rw [hadd, hc j hj]
   simpa using hv)
 cases hq : P.info? ty with
 | none => simp [hq] at hi
 | some i =>
  have hs : i.size = c.size := by simpa [hq] using hi
  have hagg : (isAgg ty).run P w = .ok true w := by
   unfold isAgg
   rw [Sem.run_bind, run_underlying hu w]
   cases d <;> simp_all
  simp only [Array.length_toList, Array.toArray_toList] at hl
  simp [loadVar, Sem.run_bind, hagg, sizeOf, typeInfo, hq, hs, hl]
theorem ldvar_later {B b0 : Nat} {w : World} {g ty : Nat} {c : Array Value} {t : TypeId} {d : TypeDesc} (hg : w.heap[g]? = some (.cells c t)) (hB : g < B) (hne : g ≠ b0)
    (hu : P.underlying ty = some d) (hd : (match d with | .struct _ | .array _ _ => true | _ => false) = true) (hi : (P.info? ty).map (·.size) = some c.size) (u : LaterX B b0 w) :
    (loadVar ty ⟨g, 0, none⟩).run P u.world = .ok (.agg c) u.world :=
 ldvar_cells (fun j _ => by rw [u.same g j hB hne, cell_of_row w g j c t (0, 0) hg]) hu hd hi
theorem wpQuiet_row {ops : Array Oper} {C : World → Prop} {Q : Act → Prop} {a : Act} {o : Oper} {rest : List Oper} (hgd : o.guard = none) (ty : TypeId) (x : Operand) (ho : o.op = .load ty x)
    (g : Nat) (hx : a.eval x = .pointer (some ⟨g, 0, none⟩)) (c : Array Value) (hl : ∀ w, C w → (loadVar ty ⟨g, 0, none⟩).run P w = .ok (.agg c) w) (h : wpQuiet P ops C Q rest (a.put o.dst (.agg c))) : wpQuiet P ops C Q (o :: rest) a := by
 unfold wpQuiet
 rw [if_pos (by simp [Region.wanted, hgd])]
 refine ⟨_, fun w hw => ?_, h⟩
 unfold Oper.quietAt execOp
 simp only [ho, hx, Instr.loadAt, Instr.sureAddr, Sem.run_bind, Sem.run_pure, Result.andThen_ok, hl w hw]
 exact ⟨rfl, rfl⟩
theorem below_setRow {B X : Nat} {w0 w : World} (h : Below B w0 w) (hX : B ≤ X) (c : Array Value) : Below B w0 (w.setRow X c) :=
 h.trans ⟨rfl, rfl, rfl, by rw [setRow_size]; exact Nat.le_refl _, fun k hk => setRow_other w X k c (by omega)⟩
theorem sameX_setRow {B b0 : Nat} {w w1 : World} (h : SameX B b0 w w1) (c : Array Value) : SameX B b0 w (w1.setRow b0 c) := fun b o hb hne => by
 rw [cell_setRow_other w1 b0 c _ (by exact hne)]; exact h b o hb hne
theorem mapG_setRow {α : Type} {K : TypeId} {kl : α → Lit} {ok : α → Prop} {w : World} {b n X : Nat} {t : TypeId} {f : α → Option Value} {c : Array Value} (h : MapG P K kl ok w b n f) (hx : w.heap[X]? = some (.cells c t)) (c' : Array Value) : MapG P K kl ok (w.setRow X c') b n f := by
 refine h.other fun o ho hc hl => ?_
 rw [setRow_other w X b c' (fun e => ?_)]
 ·exact ho
 ·subst e; rw [hx] at ho; exact hc c t _ (Option.some.inj ho).symm
end
end Go.Proofs.YtdjinmieogpgcaaGreat
/- After how many ticks a pair rests: the program's generic function at pairs. (Rows of the model (TRow) in the place of cells.) -/
namespace Go.Proofs.YtdjinmieogpgcaaGreat
open Go.RowKit Go.Shelf
set_option linter.unusedVariables false
set_option linter.unusedSimpArgs false
theorem PaiV.ok {p : Pai} (h : PaiV p) : okP p := by
 obtain ⟨ha, hb, ⟨⟨h1, h2⟩, h3, h4⟩, ⟨h5, h6⟩, h7, h8⟩ := h
 have a0 := ha.t0
 have a1 := ha.t1
 have a2 := ha.b0
 have a3 := ha.b1
 have a4 := ha.d0
 have a5 := ha.d1
 have a6 := ha.s0
 have a7 := ha.s1
 have a8 := ha.l0
 have a9 := ha.l1
 have a10 := ha.h1
 have b0 := hb.t0
 have b1 := hb.t1
 have b2 := hb.b0
 have b3 := hb.b1
 have b4 := hb.d0
 have b5 := hb.d1
 have b6 := hb.s0
 have b7 := hb.s1
 have b8 := hb.l0
 have b9 := hb.l1
 have b10 := hb.h1
 unfold okP okI
 omega
set_option maxHeartbeats 1000000 in
set_option maxRecDepth 100000 in
theorem nextP_any (m : Pai) (d : Int) (XD : Nat) (w : World) (hm : PaiV m) (hd : -10000 ≤ d ∧ d ≤ 10000) (h2 : BlkR w XD (.cells #[.int .i64 d] 3)) :
    Calls Tryz.prog 40 #[.agg #[.int .i64 m.a.tgt, .int .i64 m.a.band, .int .i64 m.a.dly, .int .i64 m.a.stp, .int .i64 m.a.lo, .int .i64 m.a.hi, .int .i64 m.b.tgt, .int .i64 m.b.band, .int .i64 m.b.dly, .int .i64 m.b.stp, .int .i64 m.b.lo, .int .i64 m.b.hi, .int .i64 m.ma.tap, .int .i64 m.ma.wait, .int .i64 m.mb.tap, .int .i64 m.mb.wait], .pointer (some ⟨XD, 0, none⟩)] w fun e' w' => e' = .returned (.agg #[.int .i64 (tickP d m).a.tgt, .int .i64 (tickP d m).a.band, .int .i64 (tickP d m).a.dly, .int .i64 (tickP d m).a.stp, .int .i64 (tickP d m).a.lo, .int .i64 (tickP d m).a.hi, .int .i64 (tickP d m).b.tgt, .int .i64 (tickP d m).b.band, .int .i64 (tickP d m).b.dly, .int .i64 (tickP d m).b.stp, .int .i64 (tickP d m).b.lo, .int .i64 (tickP d m).b.hi, .int .i64 (tickP d m).ma.tap, .int .i64 (tickP d m).ma.wait, .int .i64 (tickP d m).mb.tap, .int .i64 (tickP d m).mb.wait]) ∧ Below w.heap.size w w' := by
 have HA := Lib.hid (fun (W : World) => pairTicked_any m d W hm hd)
 obtain ⟨R, hR⟩ : ∃ R, R = tickP d m := ⟨_, rfl⟩
 rw [← hR] at HA ⊢
 obtain ⟨⟨m0, m1, m2, m3, m4, m5⟩, ⟨m6, m7, m8, m9, m10, m11⟩, ⟨m12, m13⟩, ⟨m14, m15⟩⟩ := m
 obtain ⟨⟨q0, q1, q2, q3, q4, q5⟩, ⟨q6, q7, q8, q9, q10, q11⟩, ⟨q12, q13⟩, ⟨q14, q15⟩⟩ := R
 simp only at HA ⊢
 have d0 := blk_cell h2 (i := 0) rfl
 have l2 := h2.lt
 clear hm hR hd h2
 go_enter Tryz.func40, Tryz.ntmps40
 go_wp2_with fail
 refine (HA.out _).mono ?_
 rintro e5 w5 ⟨rfl, hb5⟩
 have k6 : w5.heap[w.heap.size + 1]? = some (.cells #[.int .i64 0, .int .i64 0, .int .i64 0, .int .i64 0, .int .i64 0, .int .i64 0, .int .i64 0, .int .i64 0, .int .i64 0, .int .i64 0, .int .i64 0, .int .i64 0, .int .i64 0, .int .i64 0, .int .i64 0, .int .i64 0] 29) := by
  rw [hb5.block _ (by simp)]
  have := heap_alloc_new (w.alloc (Obj.cells #[.int .i64 m0, .int .i64 m1, .int .i64 m2, .int .i64 m3, .int .i64 m4, .int .i64 m5, .int .i64 m6, .int .i64 m7, .int .i64 m8, .int .i64 m9, .int .i64 m10, .int .i64 m11, .int .i64 m12, .int .i64 m13, .int .i64 m14, .int .i64 m15] 29)) (Obj.cells #[.int .i64 0, .int .i64 0, .int .i64 0, .int .i64 0, .int .i64 0, .int .i64 0, .int .i64 0, .int .i64 0, .int .i64 0, .int .i64 0, .int .i64 0, .int .i64 0, .int .i64 0, .int .i64 0, .int .i64 0, .int .i64 0] 29)
  simpa using this
 have HB5 := Lib.hid (show Below w.heap.size w w5 by (first|exact bwg|go_size))
 obtain ⟨X6, hX6⟩ : ∃ X, X = w.heap.size + 1 := ⟨_, rfl⟩
 rw [← hX6] at k6 ⊢
 have hx6 : w.heap.size ≤ X6 := by omega
 have y_0 := blk_cell k6 (i := 0) rfl
 have f_0 := blk_fz k6 0
 have y_1 := blk_cell k6 (i := 1) rfl
 have f_1 := blk_fz k6 1
 have y_2 := blk_cell k6 (i := 2) rfl
 have f_2 := blk_fz k6 2
 have y_3 := blk_cell k6 (i := 3) rfl
 have f_3 := blk_fz k6 3
 have y_4 := blk_cell k6 (i := 4) rfl
 have f_4 := blk_fz k6 4
 have y_5 := blk_cell k6 (i := 5) rfl
 have f_5 := blk_fz k6 5
 have y_6 := blk_cell k6 (i := 6) rfl
 have f_6 := blk_fz k6 6
 have y_7 := blk_cell k6 (i := 7) rfl
 have f_7 := blk_fz k6 7
 have y_8 := blk_cell k6 (i := 8) rfl
 have f_8 := blk_fz k6 8
 have y_9 := blk_cell k6 (i := 9) rfl
 have f_9 := blk_fz k6 9
 have y_10 := blk_cell k6 (i := 10) rfl
 have f_10 := blk_fz k6 10
 have y_11 := blk_cell k6 (i := 11) rfl
 have f_11 := blk_fz k6 11
 have y_12 := blk_cell k6 (i := 12) rfl
 have f_12 := blk_fz k6 12
 have y_13 := blk_cell k6 (i := 13) rfl
 have f_13 := blk_fz k6 13
 have y_14 := blk_cell k6 (i := 14) rfl
 have f_14 := blk_fz k6 14
 have y_15 := blk_cell k6 (i := 15) rfl
 have f_15 := blk_fz k6 15
 have l6 := blk_lt k6
 have HK6 := Lib.hid k6
 clear hb5 k6 hX6
 go_wp2
 have kw := blk_put16 HK6.out (.int .i64 q0) (.int .i64 q1) (.int .i64 q2) (.int .i64 q3) (.int .i64 q4) (.int .i64 q5) (.int .i64 q6) (.int .i64 q7) (.int .i64 q8) (.int .i64 q9) (.int .i64 q10) (.int .i64 q11) (.int .i64 q12) (.int .i64 q13) (.int .i64 q14) (.int .i64 q15)
 have hbw := below_put16 HB5.out hx6 (.int .i64 q0) (.int .i64 q1) (.int .i64 q2) (.int .i64 q3) (.int .i64 q4) (.int .i64 q5) (.int .i64 q6) (.int .i64 q7) (.int .i64 q8) (.int .i64 q9) (.int .i64 q10) (.int .i64 q11) (.int .i64 q12) (.int .i64 q13) (.int .i64 q14) (.int .i64 q15)
 clear y_0 f_0 y_1 f_1 y_2 f_2 y_3 f_3 y_4 f_4 y_5 f_5 y_6 f_6 y_7 f_7 y_8 f_8 y_9 f_9 y_10 f_10 y_11 f_11 y_12 f_12 y_13 f_13 y_14 f_14 y_15 f_15
 generalize World.setCell (World.setCell (World.setCell (World.setCell (World.setCell (World.setCell (World.setCell (World.setCell (World.setCell (World.setCell (World.setCell (World.setCell (World.setCell (World.setCell (World.setCell (World.setCell (w5) ⟨X6, 0, none⟩ (.int .i64 q0)) ⟨X6, 1, none⟩ (.int .i64 q1)) ⟨X6, 2, none⟩ (.int .i64 q2)) ⟨X6, 3, none⟩ (.int .i64 q3)) ⟨X6, 4, none⟩ (.int .i64 q4)) ⟨X6, 5, none⟩ (.int .i64 q5)) ⟨X6, 6, none⟩ (.int .i64 q6)) ⟨X6, 7, none⟩ (.int .i64 q7)) ⟨X6, 8, none⟩ (.int .i64 q8)) ⟨X6, 9, none⟩ (.int .i64 q9)) ⟨X6, 10, none⟩ (.int .i64 q10)) ⟨X6, 11, none⟩ (.int .i64 q11)) ⟨X6, 12, none⟩ (.int .i64 q12)) ⟨X6, 13, none⟩ (.int .i64 q13)) ⟨X6, 14, none⟩ (.int .i64 q14)) ⟨X6, 15, none⟩ (.int .i64 q15) = wz at *
 have c_0 := blk_cell kw (i := 0) rfl
 have c_1 := blk_cell kw (i := 1) rfl
 have c_2 := blk_cell kw (i := 2) rfl
 have c_3 := blk_cell kw (i := 3) rfl
 have c_4 := blk_cell kw (i := 4) rfl
 have c_5 := blk_cell kw (i := 5) rfl
 have c_6 := blk_cell kw (i := 6) rfl
 have c_7 := blk_cell kw (i := 7) rfl
 have c_8 := blk_cell kw (i := 8) rfl
 have c_9 := blk_cell kw (i := 9) rfl
 have c_10 := blk_cell kw (i := 10) rfl
 have c_11 := blk_cell kw (i := 11) rfl
 have c_12 := blk_cell kw (i := 12) rfl
 have c_13 := blk_cell kw (i := 13) rfl
 have c_14 := blk_cell kw (i := 14) rfl
 have c_15 := blk_cell kw (i := 15) rfl
 refine bodyPost_ret (v := .agg #[.int .i64 q0, .int .i64 q1, .int .i64 q2, .int .i64 q3, .int .i64 q4, .int .i64 q5, .int .i64 q6, .int .i64 q7, .int .i64 q8, .int .i64 q9, .int .i64 q10, .int .i64 q11, .int .i64 q12, .int .i64 q13, .int .i64 q14, .int .i64 q15]) (by simp [results, Tryz.results40, go_sem, c_0, c_1, c_2, c_3, c_4, c_5, c_6, c_7, c_8, c_9, c_10, c_11, c_12, c_13, c_14, c_15]) rfl ⟨rfl, hbw⟩
set_option maxHeartbeats 1000000 in
set_option maxRecDepth 100000 in
theorem movesP_any (a b : Pai) (w : World) : Calls Tryz.prog 41 #[.agg #[.int .i64 a.a.tgt, .int .i64 a.a.band, .int .i64 a.a.dly, .int .i64 a.a.stp, .int .i64 a.a.lo, .int .i64 a.a.hi, .int .i64 a.b.tgt, .int .i64 a.b.band, .int .i64 a.b.dly, .int .i64 a.b.stp, .int .i64 a.b.lo, .int .i64 a.b.hi, .int .i64 a.ma.tap, .int .i64 a.ma.wait, .int .i64 a.mb.tap, .int .i64 a.mb.wait], .agg #[.int .i64 b.a.tgt, .int .i64 b.a.band, .int .i64 b.a.dly, .int .i64 b.a.stp, .int .i64 b.a.lo, .int .i64 b.a.hi, .int .i64 b.b.tgt, .int .i64 b.b.band, .int .i64 b.b.dly, .int .i64 b.b.stp, .int .i64 b.b.lo, .int .i64 b.b.hi, .int .i64 b.ma.tap, .int .i64 b.ma.wait, .int .i64 b.mb.tap, .int .i64 b.mb.wait]] w fun e' w' => e' = .returned (.bool (a.ma.tap != b.ma.tap || a.mb.tap != b.mb.tap)) ∧ Below w.heap.size w w' := by
 obtain ⟨⟨a0, a1, a2, a3, a4, a5⟩, ⟨a6, a7, a8, a9, a10, a11⟩, ⟨a12, a13⟩, ⟨a14, a15⟩⟩ := a
 obtain ⟨⟨b0, b1, b2, b3, b4, b5⟩, ⟨b6, b7, b8, b9, b10, b11⟩, ⟨b12, b13⟩, ⟨b14, b15⟩⟩ := b
 simp only
 obtain ⟨X, hX⟩ : ∃ X, X = (a12 != b12) := ⟨_, rfl⟩
 have hX2 : (a12 != b12) = X := hX.symm
 rw [hX2]
 clear hX
 cases X
 ·go_enter Tryz.func41, Tryz.ntmps41
  go_wp2
  go_ret
  exact ⟨ret_bool (by simp), by (first|exact bwg|go_size)⟩
 ·go_enter Tryz.func41, Tryz.ntmps41
  go_wp2
  go_ret
  exact ⟨ret_bool (by simp), by (first|exact bwg|go_size)⟩
def TickP (f : Pai → Pai) (m : Pai) (BM k : Nat) (w : World) : Prop :=
 ∃ g, MapG Tryz.prog 29 paiL okP w BM k g ∧ (∀ i, i < k → g (itr f m i) = some (.int .i64 (i : Int))) ∧ ∀ x, okP x → (∀ i, i < k → itr f m i ≠ x) → g x = none
def paiR (p : Pai) : Array Value := (paiC p).toArray
theorem paiR_size (p : Pai) : (paiR p).size = 16 := rfl
theorem paiR_one (p : Pai) : ∀ v ∈ (paiR p).toList, v.oneCell' = true := by
 intro v hv
 have hv : v ∈ paiC p := by simpa [paiR] using hv
 simp only [paiC, List.mem_cons, List.not_mem_nil, or_false] at hv
 rcases hv with rfl | rfl | rfl | rfl | rfl | rfl | rfl | rfl | rfl | rfl | rfl | rfl | rfl | rfl | rfl | rfl <;> rfl
theorem infoPair : (Tryz.prog.info? 29).map (·.size) = some 16 := by kernel_rfl
set_option maxHeartbeats 4000000 in
set_option maxRecDepth 100000 in
theorem restR_any (m : Pai) (d : Int) (XD : Nat) (w : World) (hm : PaiV m) (hd : -10000 ≤ d ∧ d ≤ 10000) (h2 : BlkR w XD (.cells #[.int .i64 d] 3)) :
    Calls Tryz.prog 42 #[.agg (paiR m), .func (.func 40) #[] #[.pointer (some ⟨XD, 0, none⟩)], .func (.func 41) #[] #[]] w
     fun e' w' => Below w.heap.size w w' ∧ ∃ T fr, Rep (tickP d) m T fr ∧ e' = .returned (.tuple #[.int .i64 ((lastM (tickP d) (mvP d) m T : Nat) : Int), .agg (paiR (itr (tickP d) m T)), .bool (decide (lastM (tickP d) (mvP d) m T ≤ fr))]) := by
 have HV := Lib.hid (fun (k : Nat) => itr_inv (f := tickP d) (p := PaiV) (tickP_valid d) hm k)
 have HOK := Lib.hid (fun (k : Nat) => PaiV.ok (HV.out k))
 have HBD := Lib.hid (fun (T : Nat) (h : ∀ i j, i < j → j < T → itr (tickP d) m i ≠ itr (tickP d) m j) => tickP_bound hm h)
 have HLE := Lib.hid (fun (k : Nat) => lastM_le (tickP d) (mvP d) m k)
 have hq0 : itr (tickP d) m 0 = m := rfl
 have HNX := Lib.hid (fun (k : Nat) (W : World) (hb : Below w.heap.size w W) => show Calls Tryz.prog 40 #[.agg (paiR (itr (tickP d) m k)), .pointer (some ⟨XD, 0, none⟩)] W (fun e' w' => e' = .returned (.agg (paiR (tickP d (itr (tickP d) m k)))) ∧ Below W.heap.size W w') from nextP_any (itr (tickP d) m k) d XD W (HV.out k) hd ((hb.block XD h2.lt).trans h2))
 have hit : ∀ k, tickP d (itr (tickP d) m k) = itr (tickP d) m (k + 1) := fun _ => rfl
 simp only [hit] at HNX
 have HMV := Lib.hid (fun (a b : Pai) (W : World) => show Calls Tryz.prog 41 #[.agg (paiR a), .agg (paiR b)] W (fun e' w' => e' = .returned (.bool (a.ma.tap != b.ma.tap || a.mb.tap != b.mb.tap)) ∧ Below W.heap.size W w') from movesP_any a b W)
 have HLS := Lib.hid (fun (k : Nat) => show lastM (tickP d) (mvP d) m (k + 1) = if ((itr (tickP d) m k).ma.tap != (itr (tickP d) m (k + 1)).ma.tap || (itr (tickP d) m k).mb.tap != (itr (tickP d) m (k + 1)).mb.tap) = true then k + 1 else lastM (tickP d) (mvP d) m k from by
  rw [show ((itr (tickP d) m k).ma.tap != (itr (tickP d) m (k + 1)).ma.tap || (itr (tickP d) m k).mb.tap != (itr (tickP d) m (k + 1)).mb.tap) = mvP d (itr (tickP d) m k) from by unfold mvP; rw [Bool.eq_iff_iff]; simp [itr]]
  rfl)
 have HPV := Lib.hid (show ∀ p, paiV p = .agg (paiR p) from fun _ => rfl)
 have hsz := paiR_size
 have HON := Lib.hid paiR_one
 clear hit
 generalize paiR = PC at *
 generalize hST : itr (tickP d) m = ST at *
 generalize hLA : lastM (tickP d) (mvP d) m = LA at *
 have HREP := Lib.hid (fun (T fr : Nat) (a : fr < T) (b : ST fr = ST T) (c : ∀ i j, i < j → j < T → ST i ≠ ST j) => show Rep (tickP d) m T fr from ⟨a, by rw [hST]; exact b, by rw [hST]; exact c⟩)
 have HST := Lib.hid hST
 have HLA0 : LA 0 = 0 := by rw [← hLA]; rfl
 clear hST hLA h2
 have hmm := @run_makeMap Tryz.prog
 have HM0 := Lib.hid (show m = ST 0 from hq0.symm)
 have HTK := Lib.hid (show ∀ (BM k : Nat) (W : World), TickP (tickP d) m BM k W ↔ ∃ g, MapG Tryz.prog 29 paiL okP W BM k g ∧ (∀ i, i < k → g (ST i) = some (.int .i64 (i : Int))) ∧ ∀ x, okP x → (∀ i, i < k → ST i ≠ x) → g x = none from fun BM k W => by unfold TickP; rw [HST.out])
 generalize TickP (tickP d) m = TP at *
 generalize hrp : Rep (tickP d) m = RP at *
 clear hq0 hm hd hrp HV
 go_enter Tryz.func42, Tryz.ntmps42
 go_wp2_with fail
 obtain ⟨Z, hZ⟩ : ∃ Z : Array Value, Z = #[.int .i64 0, .int .i64 0, .int .i64 0, .int .i64 0, .int .i64 0, .int .i64 0, .int .i64 0, .int .i64 0, .int .i64 0, .int .i64 0, .int .i64 0, .int .i64 0, .int .i64 0, .int .i64 0, .int .i64 0, .int .i64 0] := ⟨_, rfl⟩
 have hszZ : Z.size = 16 := by rw [hZ]; rfl
 rw [← hZ]
 obtain ⟨w3, hW3⟩ : ∃ w3, w3 = ((w.alloc (Obj.cells (PC m) 29)).alloc (Obj.cells Z 29)).alloc (Obj.map #[] 0) := ⟨_, rfl⟩
 rw [← hW3]
 obtain ⟨X3, hX3⟩ : ∃ X, X = w.heap.size := ⟨_, rfl⟩
 obtain ⟨X7, hX7⟩ : ∃ X, X = w.heap.size + 1 := ⟨_, rfl⟩
 obtain ⟨BM, hBM⟩ : ∃ X, X = w.heap.size + 1 + 1 := ⟨_, rfl⟩
 simp only [← hBM]
 simp only [← hX7]
 simp only [← hX3]
 have hb3 : Below w.heap.size w w3 := by rw [hW3]; (first|exact bwg|go_size)
 have k3 : BlkR w3 X3 (.cells (PC m) 29) := by
  show w3.heap[X3]? = _
  rw [hW3, hX3, Below.heap_alloc _ _ _ (by simp; omega), Below.heap_alloc _ _ _ (by simp)]
  exact heap_alloc_new _ _
 have k7 : BlkR w3 X7 (.cells Z 29) := by
  show w3.heap[X7]? = _
  rw [hW3, hX7, Below.heap_alloc _ _ _ (by simp)]
  have := heap_alloc_new (w.alloc (Obj.cells (PC m) 29)) (Obj.cells Z 29)
  simpa using this
 have hmk : TP BM 0 w3 := by
  rw [HTK.out]
  refine ⟨fun _ => none, ?_, fun i hi => absurd hi (Nat.not_lt_zero _), fun _ _ _ => rfl⟩
  have := MapG.made (P := Tryz.prog) (K := 29) (kl := paiL) (ok := okP) ((w.alloc (Obj.cells (PC m) 29)).alloc (Obj.cells Z 29))
  rw [← hW3] at this
  simpa [hBM] using this
 have k3' : BlkR w3 X3 (.cells (PC (ST 0)) 29) := by rw [← HM0.out]; exact k3
 have hwX : w.heap.size ≤ X3 := by omega
 have hwX7 : w.heap.size ≤ X7 := by omega
 have hwB : w.heap.size ≤ BM := by omega
 have n37 : X3 ≠ X7 := by omega
 have HZ := Lib.hid hZ
 have HSZ := Lib.hid hsz
 have HSQ := Lib.hid hszZ
 clear hW3 hX3 hX7 hBM k3 hmm hZ hszZ
 go_loopw [10, 11] (fun a b wr => ∃ k : Nat, a = .int .i64 ((LA k : Nat) : Int) ∧ b = .int .i64 (k : Int) ∧ Hid (∀ i j, i < j → j < k → ST i ≠ ST j) ∧ Hid (BlkR wr X3 (.cells (PC (ST k)) 29)) ∧ Hid (BlkR wr X7 (.cells Z 29)) ∧ Hid (TP BM k wr) ∧ Hid (Below w.heap.size w wr)) (fun _ b _ => 10500000 - (intOf b).toNat)
 case atStart => exact ⟨0, by rw [HLA0]; rfl, rfl, Lib.hid (fun i j _ h => absurd h (Nat.not_lt_zero _)), Lib.hid k3', Lib.hid k7, Lib.hid hmk, Lib.hid hb3⟩
 case round =>
  clear k3' k7 hmk hb3
  obtain ⟨k, rfl, rfl, HDI, K3, K7, HTM, HB⟩ := hrel
  obtain ⟨g, hg1, hg2, hg3⟩ := (HTK.out BM k wr).1 HTM.out
  have hk32 : k ≤ 10497600 := HBD.out k HDI.out
  have hlk := hg1.look_ok paiKeys Tryz.underlying133 (zeroInt wr) (HOK.out k)
  rw [HPV.out] at hlk
  have l3 := K3.out.lt
  have hLk : LA k ≤ k := HLE.out k
  by_cases hex : ∃ i, i < k ∧ ST i = ST k
  ·as_aux_lemma =>
   obtain ⟨fr, hfr, hfe⟩ := hex
   have hgk := hg2 fr hfr
   rw [hfe] at hgk
   rw [hgk] at hlk
   have HRX := Lib.hid (HREP.out k fr hfr hfe HDI.out)
   have l7 := K7.out.lt
   have HLX := Lib.hid (fun u => ldvar_later (P := Tryz.prog) (ty := 29) (B := wr.heap.size) (b0 := X7) K3.out l3 n37 Tryz.underlying29 rfl (by rw [HSZ.out (ST k)]; exact infoPair) u)
   have hd7 : wr.drew.heap[X7]? = some (.cells Z 29) := K7.out
   have HD7 := Lib.hid hd7
   have HY := Lib.hid (sameX_setRow (b0 := X7) (SameX.of_below (show Below wr.heap.size wr wr.drew by (first|exact bwg|go_size))) (PC (ST k)))
   have hw7 := setRow_heap wr.drew X7 Z (PC (ST k)) 29 (0, 0) hd7
   have HLR := Lib.hid (ldvar_cells (P := Tryz.prog) (ty := 29) (fun j _ => cell_of_row _ _ j _ _ _ hw7) Tryz.underlying29 rfl (by rw [HSZ.out (ST k)]; exact infoPair))
   have HBR := Lib.hid (below_setRow (show Below w.heap.size w wr.drew from HB.out.drew) hwX7 (PC (ST k)))
   have hS1 := Lib.hid (HON.out (ST k))
   obtain ⟨S, hS⟩ : ∃ S, S = PC (ST k) := ⟨_, rfl⟩
   have hSs : S.size = 16 := by rw [hS]; exact HSZ.out _
   have HSk := Lib.hid hS
   rw [← hS] at hlk HLX HY HLR HBR hS1
   clear hg1 hg2 hg3 hgk hfr hfe hd7 hS hw7
   simp only [Option.getD_some, Option.isSome_some] at hlk
   have HSs := Lib.hid hSs
   go_wp2_with (refine wpList_load_row rfl 29 _ rfl X3 rfl 29 S (0, 0) _ (by rw [HSk.out]; exact K3.out) Tryz.underlying29 rfl (by rw [HSs.out]; exact infoPair) ?_)
   refine wp_region_laterC (B := wr.heap.size) (b0 :=  X7) [(true, 0), (true, 1), (true, 2), (true, 3), (true, 4), (true, 5), (false, 6), (true, 7)] (by kernel_rfl) (by kernel_rfl) ?_; simp only [opsOf, List.filterMap_cons, List.filterMap_nil, List.getElem?_toArray, List.getElem?_cons_zero, List.getElem?_cons_succ, Option.map_some]
   repeat (first | (refine mixc_head ?_; refine wpQuiet_row rfl 29 _ rfl X3 rfl S (fun w' hw' => by obtain ⟨u, rfl⟩ := hw'; exact HLX.out u) ?_; refine wpQuiet_nil ?_; go_simp) | (refine mixc_head ?_; (show wpQuiet _ _ _ _ (_ :: _) _; go_big_quiet_step (fail)); refine wpQuiet_nil ?_))
   refine mixc_tail ?_
   refine wpList_store_row rfl 29 _ _ rfl X7 S rfl rfl 29 Z HD7.out (by rw [HSs.out]; exact infoPair) (by rw [HSs.out]; exact HSQ.out) (Array.all_eq_true_iff_forall_mem.2 (fun v hv => hS1.out v (by simpa using hv))) ?_
   refine tailC_stay HY.out ?_
   go_simp
   repeat (refine mixc_head ?_; (show wpQuiet _ _ _ _ (_ :: _) _; go_big_quiet_step (fail)); refine wpQuiet_nil ?_)
   refine mixc_nil ?_
   go_wp2
   have lr := HLR.out
   refine bodyPost_ret (v := .tuple #[.int .i64 ((LA k : Nat) : Int), .agg S, .bool (decide (LA k ≤ fr))]) (by simp [results, Tryz.results42, asAddr, lr]) rfl ⟨HBR.out, k, fr, HRX.out, by rw [HSk.out]⟩
  ·as_aux_lemma =>
   have hgn : g (ST k) = none := hg3 _ (HOK.out k) (fun i hi e => hex ⟨i, hi, e⟩)
   rw [hgn] at hlk
   obtain ⟨wU, hrunU, hmapU, hgrowU, hncU⟩ := hg1.store paiKeys Tryz.underlying133 (by unfold maxLen; omega) (HOK.out k) (.int .i64 (k : Int))
   rw [HPV.out] at hrunU
   have hkeep : ∀ (kk : Nat) (o : Obj), wr.heap[kk]? = some o → (∀ es c, o ≠ .map es c) → wU.heap[kk]? = some o := fun kk o hk ho => (hgrowU.block kk (Array.getElem?_eq_some_iff.1 hk).1 (by have := hg1.ne hk ho; simp only [ne_eq, Option.some.injEq]; exact this)).trans hk
   have K3U := Lib.hid (show BlkR wU X3 _ from hkeep X3 _ K3.out (fun _ _ h => by cases h))
   have K7U := Lib.hid (show BlkR wU X7 _ from hkeep X7 _ K7.out (fun _ _ h => by cases h))
   have HBU := Lib.hid (HB.out.grown hgrowU HB.out.size (fun kk hk => by simp only [Option.some.injEq] at hk; omega))
   have HTU := Lib.hid (show TP BM (k + 1) wU from by
    rw [HTK.out]
    refine ⟨_, hmapU, fun i hi => ?_, fun x hx hne => ?_⟩
    ·show (if ST i = ST k then _ else g (ST i)) = _
     rcases Nat.lt_or_ge i k with h | h
     ·rw [if_neg (fun e => hex ⟨i, h, e⟩)]; exact hg2 i h
     ·obtain rfl : i = k := by omega
      rw [if_pos rfl]
    ·show (if x = ST k then _ else g x) = _
     rw [if_neg (fun e => hne k (by omega) e.symm)]
     exact hg3 x hx (fun i hi => hne i (by omega)))
   have HDN := Lib.hid (show ∀ i j, i < j → j < k + 1 → ST i ≠ ST j from fun i j hij hj e => by
    rcases Nat.lt_or_ge j k with h | h
    ·exact HDI.out i j hij h e
    ·obtain rfl : j = k := by omega
     exact hex ⟨i, hij, e⟩)
   have l3U := K3U.out.lt
   have HNXk := Lib.hid (HNX.out k wU HBU.out)
   have HK3 := K3
   clear hg1 hg2 hg3 hgn hmapU hgrowU hncU hkeep hex K3 K7 HTM HB
   have w1 : IntKind.i64.wrap ((k : Int) + 1) = (k : Int) + 1 := by rw [IntKind.wrap_i64]; omega
   have HLK := Lib.hid (HLS.out k)
   have HMVV := Lib.hid (fun (W : World) => HMV.out (ST k) (ST (k + 1)) W)
   simp only [Option.getD_none, Option.isSome_none] at hlk
   go_wp2_with (first | (refine wpList_load_row rfl 29 _ rfl X3 rfl 29 _ (0, 0) _ HK3.out Tryz.underlying29 rfl (by rw [HSZ.out]; exact infoPair) ?_) | (refine wpList_load_row rfl 29 _ rfl X3 rfl 29 _ (0, 0) _ K3U.out Tryz.underlying29 rfl (by rw [HSZ.out]; exact infoPair) ?_))
   refine HNXk.out.mono ?_
   as_aux_lemma =>
   rintro e5 w5 ⟨rfl, hb5⟩
   have K3 := Lib.hid (K3U.out.below hb5)
   have K7 := Lib.hid (K7U.out.below hb5)
   have HB := bwt HBU hb5
   have HTM := Lib.hid (show TP BM (k + 1) w5 from by
    obtain ⟨g, q1, q2, q3⟩ := (HTK.out _ _ _).1 HTU.out
    exact (HTK.out _ _ _).2 ⟨g, q1.below hb5, q2, q3⟩)
   clear hb5 l3U hlk hrunU K3U K7U HBU HTU HNXk HK3
   obtain ⟨MB, hMB⟩ : ∃ MB, MB = ((ST k).ma.tap != (ST (k + 1)).ma.tap || (ST k).mb.tap != (ST (k + 1)).mb.tap) := ⟨_, rfl⟩
   rw [← hMB] at HMVV HLK
   have l3 := K3.out.lt
   clear hMB
   have st14 := strow_new (P := Tryz.prog) (w := w5) (c := #[.int .i64 0, .int .i64 0, .int .i64 0, .int .i64 0, .int .i64 0, .int .i64 0, .int .i64 0, .int .i64 0, .int .i64 0, .int .i64 0, .int .i64 0, .int .i64 0, .int .i64 0, .int .i64 0, .int .i64 0, .int .i64 0]) (c' := PC (ST (k + 1))) (t := 29) (by rw [HSZ.out]; rfl) (HON.out _)
   have HN6 := Lib.hid (show (w5.alloc (Obj.cells (PC (ST (k + 1))) 29)).heap[w5.heap.size]? = _ from heap_alloc_new _ _)
   have HK6 := Lib.hid (show BlkR (w5.alloc (Obj.cells (PC (ST (k + 1))) 29)) X3 _ from K3.out.below (show Below w5.heap.size w5 _ by (first|exact bwg|go_size)))
   go_wp2_with (first | (refine wpList_load_row rfl 29 _ rfl X3 rfl 29 _ (0, 0) _ HK6.out Tryz.underlying29 rfl (by rw [HSZ.out]; exact infoPair) ?_) | (refine wpList_load_row rfl 29 _ rfl w5.heap.size rfl 29 _ (0, 0) _ HN6.out Tryz.underlying29 rfl (by rw [HSZ.out]; exact infoPair) ?_))
   obtain ⟨w6, hW6⟩ : ∃ w6, w6 = w5.alloc (Obj.cells (PC (ST (k + 1))) 29) := ⟨_, rfl⟩
   rw [← hW6] at HN6 ⊢
   have hb6 : Below w5.heap.size w5 w6 := by rw [hW6]; (first|exact bwg|go_size)
   obtain ⟨X14, hX14⟩ : ∃ X, X = w5.heap.size := ⟨_, rfl⟩
   have k14 : BlkR w6 X14 (.cells (PC (ST (k + 1))) 29) := by rw [hX14]; exact HN6.out
   simp only [← hX14]
   refine (HMVV.out _).mono ?_
   rintro e7 w7 ⟨rfl, hb7⟩
   have hb67 := hb6.trans (hb7.mono hb6.size)
   have K14 := Lib.hid (k14.below hb7)
   have K3 := Lib.hid (K3.out.below hb67)
   have K7 := Lib.hid (K7.out.below hb67)
   have HB := bwt HB hb67
   have HTM := Lib.hid (show TP BM (k + 1) w7 from by
    obtain ⟨g, q1, q2, q3⟩ := (HTK.out _ _ _).1 HTM.out
    exact (HTK.out _ _ _).2 ⟨g, q1.below hb67, q2, q3⟩)
   clear l3 st14 HN6 HK6
   have l3 := K3.out.lt
   have l14 := K14.out.lt
   have st3 := strow (P := Tryz.prog) (c' := PC (ST (k + 1))) K3.out (by rw [HSZ.out, HSZ.out]) (HON.out _)
   clear hW6 hb6 hb7 hb67 k14 hX14
   cases MB
   all_goals
    go_wp2_with (refine wpList_load_row rfl 29 _ rfl X14 rfl 29 _ (0, 0) _ K14.out Tryz.underlying29 rfl (by rw [HSZ.out]; exact infoPair) ?_)
    go_roundw
    case rel =>
     refine ⟨k + 1, by rw [HLK.out]; simp, by go_num, HDN, Lib.hid (setRow_heap _ _ _ _ _ _ K3.out), Lib.hid ((setRow_other _ _ _ _ n37.symm).trans K7.out), Lib.hid ?_, Lib.hid (below_setRow HB.out hwX _)⟩
     obtain ⟨g, q1, q2, q3⟩ := (HTK.out _ _ _).1 HTM.out
     exact (HTK.out _ _ _).2 ⟨g, mapG_setRow q1 K3.out _, q2, q3⟩
    case measure => simp [intOf]; omega
set_option maxRecDepth 100000 in
theorem restP_any (m : Pai) (d : Int) (XD : Nat) (w : World) (hm : PaiV m) (hd : -10000 ≤ d ∧ d ≤ 10000) (h2 : BlkR w XD (.cells #[.int .i64 d] 3)) :
    Calls Tryz.prog 42 #[.agg #[.int .i64 m.a.tgt, .int .i64 m.a.band, .int .i64 m.a.dly, .int .i64 m.a.stp, .int .i64 m.a.lo, .int .i64 m.a.hi, .int .i64 m.b.tgt, .int .i64 m.b.band, .int .i64 m.b.dly, .int .i64 m.b.stp, .int .i64 m.b.lo, .int .i64 m.b.hi, .int .i64 m.ma.tap, .int .i64 m.ma.wait, .int .i64 m.mb.tap, .int .i64 m.mb.wait], .func (.func 40) #[] #[.pointer (some ⟨XD, 0, none⟩)], .func (.func 41) #[] #[]] w
     fun e' w' => Below w.heap.size w w' ∧ ∃ T fr, Rep (tickP d) m T fr ∧ e' = .returned (.tuple #[.int .i64 ((lastM (tickP d) (mvP d) m T : Nat) : Int), .agg #[.int .i64 (itr (tickP d) m T).a.tgt, .int .i64 (itr (tickP d) m T).a.band, .int .i64 (itr (tickP d) m T).a.dly, .int .i64 (itr (tickP d) m T).a.stp, .int .i64 (itr (tickP d) m T).a.lo, .int .i64 (itr (tickP d) m T).a.hi, .int .i64 (itr (tickP d) m T).b.tgt, .int .i64 (itr (tickP d) m T).b.band, .int .i64 (itr (tickP d) m T).b.dly, .int .i64 (itr (tickP d) m T).b.stp, .int .i64 (itr (tickP d) m T).b.lo, .int .i64 (itr (tickP d) m T).b.hi, .int .i64 (itr (tickP d) m T).ma.tap, .int .i64 (itr (tickP d) m T).ma.wait, .int .i64 (itr (tickP d) m T).mb.tap, .int .i64 (itr (tickP d) m T).mb.wait], .bool (decide (lastM (tickP d) (mvP d) m T ≤ fr))]) :=
 restR_any m d XD w hm hd h2
/- Equality of fractions (the reference's helper). -/
set_option maxRecDepth 100000 in
theorem fracs_any (l1 l2 : List (Int × Int)) (a1 a2 : Option Addr) (n1 c1 n2 c2 : Nat) (w : World) (h1 : PairsR w a1 n1 l1) (h2 : PairsR w a2 n2 l2) :
    Calls Tryz.prog 36 #[.slice a1 n1 c1, .slice a2 n2 c2] w fun e' w' => e' = .returned (.bool (decide (l1 = l2))) ∧ ∃ m, w' = w.drewN m := by
 have H1 := Lib.hid h1
 have H2 := Lib.hid h2
 have hn1 := h1.small
 have hn2 := h2.small
 clear h1 h2
 by_cases hne : n1 = n2
 ·subst hne
  have hbb : ((n1 : Int) != (n1 : Int)) = false := by simp
  go_enter Tryz.func36, Tryz.ntmps36
  go_wp2
  go_loopw [5] (fun i wr => ∃ k : Nat, i = .int .i64 k ∧ k ≤ n1 ∧ Hid (decide (l1.drop k = l2.drop k) = decide (l1 = l2)) ∧ ∃ m, wr = w.drewN m) (fun i _ => n1 - (intOf i).toNat)
  case atStart => exact ⟨0, rfl, Nat.zero_le _, rfl, 0, rfl⟩
  case round =>
   obtain ⟨k, rfl, hk, hF, m, rfl⟩ := hrel
   by_cases hlt : k < n1
   ·obtain ⟨b1, o1, rfl, hb1, hc1⟩ := H1.out.addr (by omega)
    obtain ⟨b2, o2, rfl, hb2, hc2⟩ := H2.out.addr (by omega)
    have hck1 := (hc1 k hlt).1
    have hck1' := (hc1 k hlt).2
    have hck2 := (hc2 k hlt).1
    have hck2' := (hc2 k hlt).2
    clear hc1 hc2
    have hF' := hF.out
    rw [drop_at l1 k (0, 0) (by rw [H1.out.len]; exact hlt), drop_at l2 k (0, 0) (by rw [H2.out.len]; exact hlt)] at hF'
    obtain ⟨⟨x, y⟩, hx⟩ : ∃ x, x = l1.getD k (0, 0) := ⟨_, rfl⟩
    obtain ⟨⟨x2, y2⟩, hy⟩ : ∃ y, y = l2.getD k (0, 0) := ⟨_, rfl⟩
    rw [← hx] at hck1 hck1' hF'
    rw [← hy] at hck2 hck2' hF'
    have HF := Lib.hid hF'
    have hk0 : (0 : Int) ≤ (k : Int) := by omega
    have hk1 : (k : Int) < (n1 : Int) := by omega
    clear hx hy hF' hF
    go_wp2
    by_cases hxy : x = x2
    ·subst hxy
     by_cases hyz : y = y2
     ·subst hyz
      go_wp2
      refine drew_of_eq 8 (by kernel_rfl) (by kernel_rfl) ?_; simp only [List.take_succ_cons, List.take_zero, List.drop_succ_cons, List.drop_zero]; repeat go_big_quiet_step (fail)
      refine wpQuiet_nil ?_; intro m7
      go_wp2
      go_roundw
      case rel => exact ⟨k + 1, by go_num, by omega, Lib.hid (by simpa using HF.out), _, rfl⟩
      case measure => simp [intOf]; omega
     ·have hbx : (y == y2) = false := by simpa using hyz
      go_wp2
      refine drew_of_eq 8 (by kernel_rfl) (by kernel_rfl) ?_; simp only [List.take_succ_cons, List.take_zero, List.drop_succ_cons, List.drop_zero]; repeat go_big_quiet_step (fail)
      refine wpQuiet_nil ?_; intro m7
      go_wp2
      go_ret
      exact ⟨ret_bool (by rw [← HF.out]; simp [hyz]), _, rfl⟩
    ·have hbx : (x == x2) = false := by simpa using hxy
     go_wp2
     refine drew_of_eq 8 (by kernel_rfl) (by kernel_rfl) ?_; simp only [List.take_succ_cons, List.take_zero, List.drop_succ_cons, List.drop_zero]; repeat go_big_quiet_step (fail)
     refine wpQuiet_nil ?_; intro m7
     go_wp2
     go_ret
     exact ⟨ret_bool (by rw [← HF.out]; simp [hxy]), _, rfl⟩
   ·go_wp2
    go_ret
    exact ⟨ret_bool (by rw [← hF.out, drop_end l1 k (by rw [H1.out.len]; omega), drop_end l2 k (by rw [H2.out.len]; omega)]; rfl), m, rfl⟩
 ·have hbb : ((n1 : Int) != (n2 : Int)) = true := by simp; omega
  go_enter Tryz.func36, Tryz.ntmps36
  go_wp2
  go_ret
  refine ⟨ret_bool ?_, 0, rfl⟩
  have : ¬ l1 = l2 := by intro h; apply hne; rw [← H1.out.len, ← H2.out.len, h]
  simp [this]
end Go.Proofs.YtdjinmieogpgcaaGreat
