import Derived.Test.YtdjinmieogpgcaaGreatProg
import Derived.ChangeSlices
import Derived.Lib.SmallJoins
import Derived.ProofKit
import Derived.OpenShut
import Derived.ChangeOld
import Derived.Below
import Derived.Test.YtdjinmieogpgcaaGreatMTAwk
/- The law TapPairs: a pair after a tick, and after how many ticks it rests, are as specified. (Printed by gen_par.py.) -/
namespace Go.Proofs.YtdjinmieogpgcaaGreat
open Go.RowKit Go.Shelf
set_option linter.unusedVariables false
set_option linter.unusedSimpArgs false
theorem prd_split (p : Pai) (d : Int) : prdE p d = if paiE p ≠ 0 then paiE p else swE d := by
 have h : prdE p d = firstErr [regE p.a, regE p.b, momE p.a p.ma, momE p.b p.mb, swE d] := rfl
 have h2 : paiE p = firstErr [regE p.a, regE p.b, momE p.a p.ma, momE p.b p.mb] := rfl
 rw [h, h2]
 simp only [firstErr]
 by_cases h1 : regE p.a = 0 <;> by_cases h2 : regE p.b = 0 <;> by_cases h3 : momE p.a p.ma = 0 <;> by_cases h4 : momE p.b p.mb = 0 <;> by_cases h5 : swE d = 0 <;> simp [h1, h2, h3, h4, h5]
theorem eqlPZ (p : Pai) (w : World) : (binOp .eql 29 (.agg (pv p)) (.agg #[.int .i64 0, .int .i64 0, .int .i64 0, .int .i64 0, .int .i64 0, .int .i64 0, .int .i64 0, .int .i64 0, .int .i64 0, .int .i64 0, .int .i64 0, .int .i64 0, .int .i64 0, .int .i64 0, .int .i64 0, .int .i64 0])).run Tryz.prog w = .ok (.bool (decide (p = zPai))) w := eqlPV p zPai w
theorem pr_meet {p : Pai} {d n e n' : Int} {b : Bool} (h : PrO p d n e) (h0 : prdE p d = 0) (h' : PrR p d n' b) : (b = true ∧ n = n' ∧ e = 0) ∨ (b = false ∧ n = 0 ∧ e = 21) := by
 obtain ⟨T', fr', hr', rfl, rfl⟩ := h'
 rcases h with ⟨h1, _⟩ | ⟨_, T, fr, hr, h2⟩
 ·exact absurd h0 h1
 ·obtain ⟨rfl, rfl⟩ := hr.uniq hr'
  rcases h2 with ⟨h3, h4, h5⟩ | ⟨h3, h4, h5⟩
  ·exact .inl ⟨decide_eq_true h3, h4, h5⟩
  ·exact .inr ⟨decide_eq_false h3, h4, h5⟩
theorem pr_bad {p : Pai} {d n e : Int} (h : PrO p d n e) (h0 : prdE p d ≠ 0) : n = 0 ∧ e = prdE p d := by
 rcases h with ⟨_, h1, h2⟩ | ⟨h1, _⟩
 ·exact ⟨h1, h2⟩
 ·exact absurd h1 h0
theorem wpList_ldG {ops : Array Oper} {rest : List Oper} {o : Oper} {a : Act} {w : World} {Q : Exit → Act → World → Prop} (hgd : Region.wanted o (yielded ops a.tmps) = true) (x : Operand) (ho : o.op = .load 29 x)
    (g : Nat) (hx : a.eval x = .pointer (some ⟨g, 0, none⟩)) (p : Pai) (hg : BlkR w g (.cells (pv p) 29))
    (h : wpList Tryz.prog ops Q rest (a.put o.dst (.agg (pv p))) w) : wpList Tryz.prog ops Q (o :: rest) a w :=
 BigFrame.wpList_want hgd fun _ hK => wp_load_row 29 x ho g hx 29 (pv p) (0, 0) _ hg Tryz.underlying29 rfl spai (hK _ _ h)
theorem wpQuiet_rowG {ops : Array Oper} {C : World → Prop} {Q : Act → Prop} {a : Act} {o : Oper} {rest : List Oper} (hgd : Region.wanted o (yielded ops a.tmps) = true) (x : Operand) (ho : o.op = .load 29 x)
    (g : Nat) (hx : a.eval x = .pointer (some ⟨g, 0, none⟩)) (p : Pai) (hl : ∀ w, C w → BlkR w g (.cells (pv p) 29)) (h : wpQuiet Tryz.prog ops C Q rest (a.put o.dst (.agg (pv p)))) : wpQuiet Tryz.prog ops C Q (o :: rest) a := by
 unfold wpQuiet
 rw [if_pos hgd]
 refine ⟨_, fun w hw => ?_, h⟩
 unfold Oper.quietAt execOp
 simp only [ho, hx, Instr.loadAt, Instr.sureAddr, Sem.run_bind, Sem.run_pure, Result.andThen_ok, ldVarP (hl w hw)]
 exact ⟨rfl, rfl⟩
theorem BlkR.setR {w : World} {X g : Nat} {o : Obj} (h : BlkR w X o) (hn : X ≠ g) {cs : Array Value} : BlkR (w.setRow g cs) X o := (setRow_other w g X cs hn).trans h
attribute [local go_sem high] eqlPV neqPV eqlPZ
set_option maxHeartbeats 4000000 in
set_option maxRecDepth 100000 in
theorem pai_law (p : Pai) (d : Int) (w : World) : Calls Tryz.prog 3 #[.agg (pv p), .int .i64 d] w fun e' w' => e' = .returned (.bool true) ∧ Below w.heap.size w w' := by
 have HPR := Lib.hid (fun (W : World) => pairRegulated_any p d W)
 have HPS := Lib.hid (fun (W : World) => show Calls Tryz.prog 8 #[.agg (pv p), .int .i64 d] W (fun e' w' => Below W.heap.size W w' ∧ ∃ n e, e' = .returned (.tuple #[.int .i64 n, .int .i64 e]) ∧ PrO p d n e) from pairRests_any p d W)
 have HPE := Lib.hid (fun (W : World) => show Calls Tryz.prog 9 #[.agg (pv p)] W (fun e' w' => e' = .returned (.int .i64 (paiE p)) ∧ Below W.heap.size W w') from rPairErr_any p W)
 have HSW := Lib.hid (fun (W : World) => rSwingErr_any d W)
 have HRG := Lib.hid (fun (h : prdE p d = 0) (W : World) => show Calls Tryz.prog 11 #[.agg (pv p), .int .i64 d] W (fun e' w' => e' = .returned (.agg (pv (tickP d p))) ∧ Below W.heap.size W w') from rPairRegulated_any p d W (prdE_zero h).1 (prdE_zero h).2)
 have HRR := Lib.hid (fun (h : prdE p d = 0) (hf : PaiF p) (W : World) => show Calls Tryz.prog 12 #[.agg (pv p), .int .i64 d] W (fun e' w' => ∃ n b, PrR p d n b ∧ e' = .returned (.tuple #[.int .i64 n, .bool b]) ∧ Below W.heap.size W w') from rPairRests_any p d W (prdE_zero h).1 hf (prdE_zero h).2)
 have HV := Lib.hid (show prgV p d = if prdE p d ≠ 0 then zPai else tickP d p from rfl)
 have HSP := Lib.hid (prd_split p d)
 have HM := Lib.hid (fun n e n' b (h : PrO p d n e) (h0 : prdE p d = 0) (h' : PrR p d n' b) => pr_meet h h0 h')
 have HBD := Lib.hid (fun n e (h : PrO p d n e) (h0 : prdE p d ≠ 0) => pr_bad h h0)
 have HRV := Lib.hid (fun (h : prdE p d = 0) => show (-40 ≤ p.a.lo ∧ p.a.lo ≤ 40 ∧ -40 ≤ p.a.hi ∧ p.a.hi ≤ 40) ∧ -40 ≤ p.b.lo ∧ p.b.lo ≤ 40 ∧ -40 ≤ p.b.hi ∧ p.b.hi ≤ 40 from by
  have h1 := (prdE_zero h).1.1
  have h2 := (prdE_zero h).1.2.1
  have := h1.l0; have := h1.l1; have := h1.h1; have := h2.l0; have := h2.l1; have := h2.h1
  omega)
 generalize PrO p d = PO at *
 generalize PrR p d = PR at *
 generalize tickP d p = TP at *
 generalize prgV p d = V at *
 generalize prdE p d = E at *
 generalize paiE p = E1 at *
 generalize swE d = E2 at *
 go_enter Tryz.func3, Tryz.ntmps3
 go_upto_region 1 with (fail)
 obtain ⟨w2, hW2⟩ : ∃ w2, w2 = w.alloc (Obj.cells (pv p) 29) := ⟨_, rfl⟩
 obtain ⟨hb2, k2⟩ := alA1 w (Obj.cells (pv p) 29)
 rw [← hW2] at hb2 k2
 rw [← hW2]
 obtain ⟨X2, hX2⟩ : ∃ X, X = w.heap.size := ⟨_, rfl⟩
 have k2 : BlkR w2 X2 (.cells (pv p) 29) := by rw [hX2]; exact k2
 simp only [← hX2]
 clear hW2 hX2
 go_wp2_with fail
 refine (awake_any w2).mono ?_
 rintro e3 w3 ⟨rfl, hb3⟩
 have k2 := k2.below hb3
 have HB := Lib.hid (hb2.trans (hb3.mono hb2.size))
 clear hb2 hb3
 go_upto_region 3 with (fail)
 go_wp2_with (first | refine wpList_ldP rfl _ rfl X2 rfl p k2 ?_)
 refine (HPR.out w3).mono ?_
 rintro e4 w4 ⟨rfl, hb4⟩
 have k2 := k2.below hb4
 have HB := bwt HB hb4
 clear hb4
 go_wp2_with (first | refine wpList_stP rfl _ _ rfl w4.heap.size V zPai rfl rfl (heap_alloc_new _ _) ?_ | refine wpList_ldP rfl _ rfl X2 rfl p ((k2.below (show Below w4.heap.size w4 (w4.alloc _) by (first|exact bwg|go_size))).setR (by have := k2.lt; omega)) ?_)
 rw [World.setRow_alloc_new]
 obtain ⟨hb5, k5⟩ := alA1 w4 (Obj.cells (pv V) 29)
 obtain ⟨X5, hX5⟩ : ∃ X, X = w4.heap.size := ⟨_, rfl⟩
 have k5 : BlkR (w4.alloc (Obj.cells (pv V) 29)) X5 (.cells (pv V) 29) := by rw [hX5]; exact k5
 have hb5 : Below w4.heap.size w4 (w4.alloc (Obj.cells (pv V) 29)) := hb5
 simp only [← hX5]
 generalize w4.alloc (Obj.cells (pv V) 29) = w5 at *
 have k2 := k2.below hb5
 have HB := bwt HB hb5
 clear hb5 hX5
 refine (HPS.out w5).mono ?_
 rintro e6 w6 ⟨hb6, n, e, rfl, hpo⟩
 have k2 := k2.below hb6
 have k5 := k5.below hb6
 have HB := bwt HB hb6
 have HPO := Lib.hid hpo
 clear hb6 hpo
 go_wp2_with (first | refine wpList_ldP rfl _ rfl X2 rfl p k2 ?_)
 refine (HPE.out w6).mono ?_
 rintro e7 w7 ⟨rfl, hb7⟩
 have k2 := k2.below hb7
 have k5 := k5.below hb7
 have HB := bwt HB hb7
 clear hb7
 by_cases h1 : E1 = 0
 rotate_left
 ·have hE : E = E1 := by rw [HSP.out, if_pos h1]
  obtain ⟨rfl, rfl⟩ := HBD.out _ _ HPO.out (by rw [hE]; exact h1)
  have hv : V = zPai := by rw [HV.out, if_pos (by rw [hE]; exact h1)]
  subst hv
  subst hE
  have x1 := bne_iff_ne.2 h1
  have x2 := beq_eq_false_iff_ne.2 h1
  clear HSP HBD HPO h1
  go_wp2_with (first | refine wpList_ldG rfl _ rfl X5 rfl zPai k5 ?_)
  go_ret
  exact ⟨ret_bool (by simp), HB.out⟩
 subst h1
 have HSP := Lib.hid (HSP.out.trans (if_neg (by simp)))
 go_wp2_with fail
 refine (HSW.out w7).mono ?_
 rintro e8 w8 ⟨rfl, hb8⟩
 have k2 := k2.below hb8
 have k5 := k5.below hb8
 have HB := bwt HB hb8
 clear hb8
 by_cases h2 : E2 = 0
 rotate_left
 ·have hE : E = E2 := HSP.out
  obtain ⟨rfl, rfl⟩ := HBD.out _ _ HPO.out (by rw [hE]; exact h2)
  have hv : V = zPai := by rw [HV.out, if_pos (by rw [hE]; exact h2)]
  subst hv
  subst hE
  have x1 := bne_iff_ne.2 h2
  have x2 := beq_eq_false_iff_ne.2 h2
  clear HSP HBD HPO h2
  go_wp2_with (first | refine wpList_ldG rfl _ rfl X5 rfl zPai k5 ?_)
  go_ret
  exact ⟨ret_bool (by simp), HB.out⟩
 subst h2
 obtain rfl : E = 0 := HSP.out
 have hv : V = TP := by rw [HV.out, if_neg (by simp)]
 subst hv
 clear HSP HBD
 have HRG1 := Lib.hid (HRG.out rfl)
 have HRR1 := Lib.hid (HRR.out rfl)
 obtain ⟨⟨a1, a2, a3, a4⟩, b1, b2, b3, b4⟩ := HRV.out rfl
 clear HRG HRR HRV HPR HPS HPE HSW HV
 go_upto_region 10 with (fail)
 refine wp_region_laterM (B := w8.heap.size) [(true, 0), (true, 1), (true, 2), (true, 3), (true, 4), (true, 5), (false, 6), (true, 7), (true, 8)] (by kernel_rfl) (by kernel_rfl) ?_; simp only [opsOf, List.filterMap_cons, List.filterMap_nil, List.getElem?_toArray, List.getElem?_cons_zero, List.getElem?_cons_succ, Option.map_some]
 have HK2 := Lib.hid (fun (u : LaterB w8.heap.size w8) => k2.below u.below)
 have HK5 := Lib.hid (fun (u : LaterB w8.heap.size w8) => k5.below u.below)
 repeat (first | (refine mix_head ?_; refine wpQuiet_rowG rfl _ rfl X2 rfl p (fun w' hw' => by obtain ⟨u, rfl⟩ := hw'; exact HK2.out u) ?_; refine wpQuiet_nil ?_; go_simp) | (refine mix_head ?_; refine wpQuiet_rowG rfl _ rfl X5 rfl V (fun w' hw' => by obtain ⟨u, rfl⟩ := hw'; exact HK5.out u) ?_; refine wpQuiet_nil ?_; go_simp) | (refine mix_head ?_; (show wpQuiet _ _ _ _ (_ :: _) _; go_big_quiet_step (fail)); refine wpQuiet_nil ?_))
 refine mix_tail ?_; go_wp2_with fail
 refine (HRG1.out _).mono ?_
 rintro e9 w9 ⟨rfl, hb9⟩
 have hN : Below w8.heap.size w8 w9 := (show Below w8.heap.size w8 w8.drew by (first|exact bwg|go_size)).trans (hb9.mono (by simp))
 have k2 := k2.below hN
 have HB := bwt HB hN
 go_wp2_with fail
 refine tailL_mk hN ?_
 repeat (refine mix_head ?_; (show wpQuiet _ _ _ _ (_ :: _) _; go_big_quiet_step (fail)); refine wpQuiet_nil ?_)
 refine mix_nil ?_
 have HRR2 := Lib.hid (fun (a1 : p.a.dly ≤ 4) (a2 : p.a.hi - p.a.lo ≤ 8) (b1 : p.b.dly ≤ 4) (b2 : p.b.hi - p.b.lo ≤ 8) => HRR1.out ⟨a1, a2, b1, b2⟩)
 have HM2 := Lib.hid (fun n' b (h : PR n' b) => HM.out _ _ _ _ HPO.out (by trivial) h)
 clear HM HRR1 hb9 hN HRG1 HK2 HK5 HPO k5
 have d2 : w9.cell? ⟨X2, 2, none⟩ = some (.int .i64 p.a.dly) := blk_cell k2 (i := 2) rfl
 have d4 : w9.cell? ⟨X2, 4, none⟩ = some (.int .i64 p.a.lo) := blk_cell k2 (i := 4) rfl
 have d5 : w9.cell? ⟨X2, 5, none⟩ = some (.int .i64 p.a.hi) := blk_cell k2 (i := 5) rfl
 have d8 : w9.cell? ⟨X2, 8, none⟩ = some (.int .i64 p.b.dly) := blk_cell k2 (i := 8) rfl
 have d10 : w9.cell? ⟨X2, 10, none⟩ = some (.int .i64 p.b.lo) := blk_cell k2 (i := 10) rfl
 have d11 : w9.cell? ⟨X2, 11, none⟩ = some (.int .i64 p.b.hi) := blk_cell k2 (i := 11) rfl
 have v1 : IntKind.i64.wrap (p.a.hi - p.a.lo) = p.a.hi - p.a.lo := by rw [IntKind.wrap_i64]; omega
 have v2 : IntKind.i64.wrap (p.b.hi - p.b.lo) = p.b.hi - p.b.lo := by rw [IntKind.wrap_i64]; omega
 have l2 := k2.lt
 generalize p.a.dly = A2 at *
 generalize p.a.lo = A4 at *
 generalize p.a.hi = A5 at *
 generalize p.b.dly = B2 at *
 generalize p.b.lo = B4 at *
 generalize p.b.hi = B5 at *
 go_upto_region 12 with (fail)
 by_cases g1 : A2 ≤ 4
 rotate_left
 ·skip
  clear HRR2 HM2
  go_wp2
  go_ret
  exact ⟨ret_bool (by simp), HB.out⟩
 by_cases g2 : B2 ≤ 4
 rotate_left
 ·skip
  clear HRR2 HM2
  go_wp2
  go_ret
  exact ⟨ret_bool (by simp), HB.out⟩
 by_cases g3 : A5 - A4 ≤ 8
 rotate_left
 ·skip
  clear HRR2 HM2
  go_wp2
  go_ret
  exact ⟨ret_bool (by simp), HB.out⟩
 by_cases g4 : B5 - B4 ≤ 8
 rotate_left
 ·skip
  clear HRR2 HM2
  go_wp2
  go_ret
  exact ⟨ret_bool (by simp), HB.out⟩
 have HR3 := Lib.hid (HRR2.out g1 g3 g2 g4)
 clear HRR2
 go_wp2_with (first | refine wpList_ldP rfl _ rfl X2 rfl p k2 ?_)
 refine (HR3.out _).mono ?_
 rintro e10 w10 ⟨n', b, hpr, rfl, hb10⟩
 have HB := bwt HB hb10
 rcases HM2.out _ _ hpr with ⟨rfl, rfl, rfl⟩ | ⟨rfl, rfl, rfl⟩
 ·clear hpr hb10
  go_wp2
  go_ret
  exact ⟨ret_bool (by simp), HB.out⟩
 ·clear hpr hb10
  go_wp2
  go_ret
  exact ⟨ret_bool (by simp), HB.out⟩
theorem pai_any (p : Pai) (d : Int) (w : World) : Calls Tryz.prog 3 #[.agg #[.int .i64 (p).a.tgt, .int .i64 (p).a.band, .int .i64 (p).a.dly, .int .i64 (p).a.stp, .int .i64 (p).a.lo, .int .i64 (p).a.hi, .int .i64 (p).b.tgt, .int .i64 (p).b.band, .int .i64 (p).b.dly, .int .i64 (p).b.stp, .int .i64 (p).b.lo, .int .i64 (p).b.hi, .int .i64 (p).ma.tap, .int .i64 (p).ma.wait, .int .i64 (p).mb.tap, .int .i64 (p).mb.wait], .int .i64 d] w fun e' w' => e' = .returned (.bool true) ∧ Below w.heap.size w w' := pai_law p d w
end Go.Proofs.YtdjinmieogpgcaaGreat
/- What machines, limits, places, regulators and pairs that come in hold. Printed by gen_open6.py. -/
namespace Go.Proofs.YtdjinmieogpgcaaGreat
open Go.ChangeShapes Go.WideShapes Go.ChangeAt Go.RowKit
set_option linter.unusedVariables false
set_option maxRecDepth 100000
section
variable {H : Type} {enc : TypeId × Value → H} {W : World} {base : Nat} {spare : Nat → Bool} {held : Bool}
theorem sub_field {t : TypeId} {fs : Array Field} {fuel : Nat} {cs : List Value} {x : DataW H × List MemPlace} (ht : Tryz.prog.underlying t = some (.struct fs)) (h : DataW.trod enc Tryz.prog W base spare held fuel t cs = some x) (i : Nat) (f : Field) (hf : fs[i]? = some f) :
    ∃ m y, DataW.trod enc Tryz.prog W base spare held m f.type ((cs.drop f.offset).take (Tryz.prog.cellsOf f.type)) = some y := by
 obtain ⟨xs, n, _, _, _, hl, he⟩ := DataW.trod_struct ht h
 have hi : i < xs.length := by rw [hl]; exact (Array.getElem?_eq_some_iff.1 hf).1
 exact ⟨n, xs[i], (he i f hf).trans (List.getElem?_eq_getElem hi)⟩
theorem wf_bd9 {z : Int} (h : (Lit.int .i64 z).wf = true) : -9223372036854775808 ≤ z ∧ z ≤ 9223372036854775807 := by
 have h1 : IntKind.i64.min = -9223372036854775808 := by kernel_rfl
 have h2 : IntKind.i64.max = 9223372036854775807 := by kernel_rfl
 have h3 : (decide (IntKind.i64.min ≤ z) && decide (z ≤ IntKind.i64.max)) = true := h
 rw [h1, h2, Bool.and_eq_true, decide_eq_true_eq, decide_eq_true_eq] at h3
 exact h3
set_option maxRecDepth 100000 in
theorem leaf_intB {fuel : Nat} {c : Value} {x : DataW H × List MemPlace} (h : DataW.trod enc Tryz.prog W base spare held fuel 3 [c] = some x) : ∃ z, c = .int .i64 z ∧ -9223372036854775808 ≤ z ∧ z ≤ 9223372036854775807 := by
 obtain ⟨m, e, _, hw⟩ := DataW.trod_int Tryz.underlying3 h
 simp at e
 exact ⟨m, e, wf_bd9 hw⟩
def W64 (z : Int) : Prop := -9223372036854775808 ≤ z ∧ z ≤ 9223372036854775807
set_option maxRecDepth 100000 in
theorem leaf_rng {fuel : Nat} {c0 c1 : Value} {x : DataW H × List MemPlace} (h : DataW.trod enc Tryz.prog W base spare held fuel 23 [c0, c1] = some x) : ∃ (z0 : Int) (z1 : Int), [c0, c1] = [.int .i64 z0, .int .i64 z1] ∧ W64 z0 ∧ W64 z1 := by
 have n_int : Tryz.prog.cellsOf 3 = 1 := by kernel_rfl
 obtain ⟨m0, y0, e0⟩ := sub_field Tryz.underlying23 h 0 _ rfl
 have e0 : DataW.trod enc Tryz.prog W base spare held m0 3 (([c0, c1].drop 0).take (Tryz.prog.cellsOf 3)) = some y0 := e0
 rw [n_int] at e0
 obtain ⟨z0, r0, b0⟩ := leaf_intB (show DataW.trod enc Tryz.prog W base spare held m0 3 [c0] = _ from e0)
 obtain ⟨m1, y1, e1⟩ := sub_field Tryz.underlying23 h 1 _ rfl
 have e1 : DataW.trod enc Tryz.prog W base spare held m1 3 (([c0, c1].drop 1).take (Tryz.prog.cellsOf 3)) = some y1 := e1
 rw [n_int] at e1
 obtain ⟨z1, r1, b1⟩ := leaf_intB (show DataW.trod enc Tryz.prog W base spare held m1 3 [c1] = _ from e1)
 exact ⟨z0, z1, by rw [r0, r1], b0, b1⟩
set_option maxRecDepth 100000 in
theorem leaf_mom {fuel : Nat} {c0 c1 : Value} {x : DataW H × List MemPlace} (h : DataW.trod enc Tryz.prog W base spare held fuel 27 [c0, c1] = some x) : ∃ (z0 : Int) (z1 : Int), [c0, c1] = [.int .i64 z0, .int .i64 z1] ∧ W64 z0 ∧ W64 z1 := by
 have n_int : Tryz.prog.cellsOf 3 = 1 := by kernel_rfl
 obtain ⟨m0, y0, e0⟩ := sub_field Tryz.underlying27 h 0 _ rfl
 have e0 : DataW.trod enc Tryz.prog W base spare held m0 3 (([c0, c1].drop 0).take (Tryz.prog.cellsOf 3)) = some y0 := e0
 rw [n_int] at e0
 obtain ⟨z0, r0, b0⟩ := leaf_intB (show DataW.trod enc Tryz.prog W base spare held m0 3 [c0] = _ from e0)
 obtain ⟨m1, y1, e1⟩ := sub_field Tryz.underlying27 h 1 _ rfl
 have e1 : DataW.trod enc Tryz.prog W base spare held m1 3 (([c0, c1].drop 1).take (Tryz.prog.cellsOf 3)) = some y1 := e1
 rw [n_int] at e1
 obtain ⟨z1, r1, b1⟩ := leaf_intB (show DataW.trod enc Tryz.prog W base spare held m1 3 [c1] = _ from e1)
 exact ⟨z0, z1, by rw [r0, r1], b0, b1⟩
set_option maxRecDepth 100000 in
theorem leaf_reg {fuel : Nat} {c0 c1 c2 c3 c4 c5 : Value} {x : DataW H × List MemPlace} (h : DataW.trod enc Tryz.prog W base spare held fuel 25 [c0, c1, c2, c3, c4, c5] = some x) : ∃ (z0 : Int) (z1 : Int) (z2 : Int) (z3 : Int) (z4 : Int) (z5 : Int), [c0, c1, c2, c3, c4, c5] = [.int .i64 z0, .int .i64 z1, .int .i64 z2, .int .i64 z3, .int .i64 z4, .int .i64 z5] ∧ W64 z0 ∧ W64 z1 ∧ W64 z2 ∧ W64 z3 ∧ W64 z4 ∧ W64 z5 := by
 have n_int : Tryz.prog.cellsOf 3 = 1 := by kernel_rfl
 have n_rng : Tryz.prog.cellsOf 23 = 2 := by kernel_rfl
 obtain ⟨m0, y0, e0⟩ := sub_field Tryz.underlying25 h 0 _ rfl
 have e0 : DataW.trod enc Tryz.prog W base spare held m0 3 (([c0, c1, c2, c3, c4, c5].drop 0).take (Tryz.prog.cellsOf 3)) = some y0 := e0
 rw [n_int] at e0
 obtain ⟨z0, r0, b0⟩ := leaf_intB (show DataW.trod enc Tryz.prog W base spare held m0 3 [c0] = _ from e0)
 obtain ⟨m1, y1, e1⟩ := sub_field Tryz.underlying25 h 1 _ rfl
 have e1 : DataW.trod enc Tryz.prog W base spare held m1 3 (([c0, c1, c2, c3, c4, c5].drop 1).take (Tryz.prog.cellsOf 3)) = some y1 := e1
 rw [n_int] at e1
 obtain ⟨z1, r1, b1⟩ := leaf_intB (show DataW.trod enc Tryz.prog W base spare held m1 3 [c1] = _ from e1)
 obtain ⟨m2, y2, e2⟩ := sub_field Tryz.underlying25 h 2 _ rfl
 have e2 : DataW.trod enc Tryz.prog W base spare held m2 3 (([c0, c1, c2, c3, c4, c5].drop 2).take (Tryz.prog.cellsOf 3)) = some y2 := e2
 rw [n_int] at e2
 obtain ⟨z2, r2, b2⟩ := leaf_intB (show DataW.trod enc Tryz.prog W base spare held m2 3 [c2] = _ from e2)
 obtain ⟨m3, y3, e3⟩ := sub_field Tryz.underlying25 h 3 _ rfl
 have e3 : DataW.trod enc Tryz.prog W base spare held m3 3 (([c0, c1, c2, c3, c4, c5].drop 3).take (Tryz.prog.cellsOf 3)) = some y3 := e3
 rw [n_int] at e3
 obtain ⟨z3, r3, b3⟩ := leaf_intB (show DataW.trod enc Tryz.prog W base spare held m3 3 [c3] = _ from e3)
 obtain ⟨m4, y4, e4⟩ := sub_field Tryz.underlying25 h 4 _ rfl
 have e4 : DataW.trod enc Tryz.prog W base spare held m4 23 (([c0, c1, c2, c3, c4, c5].drop 4).take (Tryz.prog.cellsOf 23)) = some y4 := e4
 rw [n_rng] at e4
 obtain ⟨z4, z5, q4, b4, b5⟩ := leaf_rng (show DataW.trod enc Tryz.prog W base spare held m4 23 [c4, c5] = _ from e4)
 simp only [List.cons.injEq, and_true] at q4
 obtain ⟨r4, r5⟩ := q4
 exact ⟨z0, z1, z2, z3, z4, z5, by rw [r0, r1, r2, r3, r4, r5], b0, b1, b2, b3, b4, b5⟩
set_option maxRecDepth 100000 in
theorem leaf_pai {fuel : Nat} {c0 c1 c2 c3 c4 c5 c6 c7 c8 c9 c10 c11 c12 c13 c14 c15 : Value} {x : DataW H × List MemPlace} (h : DataW.trod enc Tryz.prog W base spare held fuel 29 [c0, c1, c2, c3, c4, c5, c6, c7, c8, c9, c10, c11, c12, c13, c14, c15] = some x) : ∃ (z0 : Int) (z1 : Int) (z2 : Int) (z3 : Int) (z4 : Int) (z5 : Int) (z6 : Int) (z7 : Int) (z8 : Int) (z9 : Int) (z10 : Int) (z11 : Int) (z12 : Int) (z13 : Int) (z14 : Int) (z15 : Int), [c0, c1, c2, c3, c4, c5, c6, c7, c8, c9, c10, c11, c12, c13, c14, c15] = [.int .i64 z0, .int .i64 z1, .int .i64 z2, .int .i64 z3, .int .i64 z4, .int .i64 z5, .int .i64 z6, .int .i64 z7, .int .i64 z8, .int .i64 z9, .int .i64 z10, .int .i64 z11, .int .i64 z12, .int .i64 z13, .int .i64 z14, .int .i64 z15] ∧ W64 z0 ∧ W64 z1 ∧ W64 z2 ∧ W64 z3 ∧ W64 z4 ∧ W64 z5 ∧ W64 z6 ∧ W64 z7 ∧ W64 z8 ∧ W64 z9 ∧ W64 z10 ∧ W64 z11 ∧ W64 z12 ∧ W64 z13 ∧ W64 z14 ∧ W64 z15 := by
 have n_mom : Tryz.prog.cellsOf 27 = 2 := by kernel_rfl
 have n_reg : Tryz.prog.cellsOf 25 = 6 := by kernel_rfl
 obtain ⟨m0, y0, e0⟩ := sub_field Tryz.underlying29 h 0 _ rfl
 have e0 : DataW.trod enc Tryz.prog W base spare held m0 25 (([c0, c1, c2, c3, c4, c5, c6, c7, c8, c9, c10, c11, c12, c13, c14, c15].drop 0).take (Tryz.prog.cellsOf 25)) = some y0 := e0
 rw [n_reg] at e0
 obtain ⟨z0, z1, z2, z3, z4, z5, q0, b0, b1, b2, b3, b4, b5⟩ := leaf_reg (show DataW.trod enc Tryz.prog W base spare held m0 25 [c0, c1, c2, c3, c4, c5] = _ from e0)
 simp only [List.cons.injEq, and_true] at q0
 obtain ⟨r0, r1, r2, r3, r4, r5⟩ := q0
 obtain ⟨m1, y1, e1⟩ := sub_field Tryz.underlying29 h 1 _ rfl
 have e1 : DataW.trod enc Tryz.prog W base spare held m1 25 (([c0, c1, c2, c3, c4, c5, c6, c7, c8, c9, c10, c11, c12, c13, c14, c15].drop 6).take (Tryz.prog.cellsOf 25)) = some y1 := e1
 rw [n_reg] at e1
 obtain ⟨z6, z7, z8, z9, z10, z11, q1, b6, b7, b8, b9, b10, b11⟩ := leaf_reg (show DataW.trod enc Tryz.prog W base spare held m1 25 [c6, c7, c8, c9, c10, c11] = _ from e1)
 simp only [List.cons.injEq, and_true] at q1
 obtain ⟨r6, r7, r8, r9, r10, r11⟩ := q1
 obtain ⟨m2, y2, e2⟩ := sub_field Tryz.underlying29 h 2 _ rfl
 have e2 : DataW.trod enc Tryz.prog W base spare held m2 27 (([c0, c1, c2, c3, c4, c5, c6, c7, c8, c9, c10, c11, c12, c13, c14, c15].drop 12).take (Tryz.prog.cellsOf 27)) = some y2 := e2
 rw [n_mom] at e2
 obtain ⟨z12, z13, q2, b12, b13⟩ := leaf_mom (show DataW.trod enc Tryz.prog W base spare held m2 27 [c12, c13] = _ from e2)
 simp only [List.cons.injEq, and_true] at q2
 obtain ⟨r12, r13⟩ := q2
 obtain ⟨m3, y3, e3⟩ := sub_field Tryz.underlying29 h 3 _ rfl
 have e3 : DataW.trod enc Tryz.prog W base spare held m3 27 (([c0, c1, c2, c3, c4, c5, c6, c7, c8, c9, c10, c11, c12, c13, c14, c15].drop 14).take (Tryz.prog.cellsOf 27)) = some y3 := e3
 rw [n_mom] at e3
 obtain ⟨z14, z15, q3, b14, b15⟩ := leaf_mom (show DataW.trod enc Tryz.prog W base spare held m3 27 [c14, c15] = _ from e3)
 simp only [List.cons.injEq, and_true] at q3
 obtain ⟨r14, r15⟩ := q3
 exact ⟨z0, z1, z2, z3, z4, z5, z6, z7, z8, z9, z10, z11, z12, z13, z14, z15, by rw [r0, r1, r2, r3, r4, r5, r6, r7, r8, r9, r10, r11, r12, r13, r14, r15], b0, b1, b2, b3, b4, b5, b6, b7, b8, b9, b10, b11, b12, b13, b14, b15⟩
set_option maxRecDepth 100000 in
theorem opened_pai {r : Reach} {b0 : Nat} {v : Value} {d : DataW H} {p : List MemPlace} (hv : Value.okWide Tryz.prog W r b0 29 v) (h : DataW.Trod enc Tryz.prog W base spare held 29 v d p) :
    ∃ (z0 : Int) (z1 : Int) (z2 : Int) (z3 : Int) (z4 : Int) (z5 : Int) (z6 : Int) (z7 : Int) (z8 : Int) (z9 : Int) (z10 : Int) (z11 : Int) (z12 : Int) (z13 : Int) (z14 : Int) (z15 : Int), v = .agg #[.int .i64 z0, .int .i64 z1, .int .i64 z2, .int .i64 z3, .int .i64 z4, .int .i64 z5, .int .i64 z6, .int .i64 z7, .int .i64 z8, .int .i64 z9, .int .i64 z10, .int .i64 z11, .int .i64 z12, .int .i64 z13, .int .i64 z14, .int .i64 z15] ∧ W64 z0 ∧ W64 z1 ∧ W64 z2 ∧ W64 z3 ∧ W64 z4 ∧ W64 z5 ∧ W64 z6 ∧ W64 z7 ∧ W64 z8 ∧ W64 z9 ∧ W64 z10 ∧ W64 z11 ∧ W64 z12 ∧ W64 z13 ∧ W64 z14 ∧ W64 z15 := by
 have hk : Tryz.prog.cellsOf 29 = 16 := by kernel_rfl
 obtain ⟨cs, rfl, hsz⟩ := okWide_struct Tryz.underlying29 hv
 obtain ⟨c0, c1, c2, c3, c4, c5, c6, c7, c8, c9, c10, c11, c12, c13, c14, c15, rfl⟩ : ∃ c0 c1 c2 c3 c4 c5 c6 c7 c8 c9 c10 c11 c12 c13 c14 c15, cs = #[c0, c1, c2, c3, c4, c5, c6, c7, c8, c9, c10, c11, c12, c13, c14, c15] := by
  have hs := hsz.trans hk
  obtain ⟨l⟩ := cs
  match l, hs with
  | [c0, c1, c2, c3, c4, c5, c6, c7, c8, c9, c10, c11, c12, c13, c14, c15], _ => exact ⟨c0, c1, c2, c3, c4, c5, c6, c7, c8, c9, c10, c11, c12, c13, c14, c15, rfl⟩
 obtain ⟨fuel, hf⟩ := h
 obtain ⟨z0, z1, z2, z3, z4, z5, z6, z7, z8, z9, z10, z11, z12, z13, z14, z15, q, bb⟩ := leaf_pai (show DataW.trod enc Tryz.prog W base spare held fuel 29 [c0, c1, c2, c3, c4, c5, c6, c7, c8, c9, c10, c11, c12, c13, c14, c15] = _ from hf)
 simp only [List.cons.injEq, and_true] at q
 obtain ⟨rfl, rfl, rfl, rfl, rfl, rfl, rfl, rfl, rfl, rfl, rfl, rfl, rfl, rfl, rfl, rfl⟩ := q
 exact ⟨z0, z1, z2, z3, z4, z5, z6, z7, z8, z9, z10, z11, z12, z13, z14, z15, rfl, bb⟩
end
end Go.Proofs.YtdjinmieogpgcaaGreat
