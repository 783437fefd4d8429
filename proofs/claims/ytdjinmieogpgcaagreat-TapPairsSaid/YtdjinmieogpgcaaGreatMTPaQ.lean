import Derived.Deep.WholeRow
import Derived.Test.YtdjinmieogpgcaaGreatTPaR
/- Pairs: after how many ticks they rest, in the reference. (Printed by gen_par.py.) -/
namespace Go.Proofs.YtdjinmieogpgcaaGreat
open Go.RowKit Go.Shelf
set_option linter.unusedVariables false
set_option linter.unusedSimpArgs false
theorem wpList_store_row {P : Program} {ops : Array Oper} {rest : List Oper} {o : Oper} {a : Act} {w : World} {Q : Exit → Act → World → Prop} (hgd : o.guard = none) (ty : TypeId) (x y : Operand) (ho : o.op = .store ty x y)
    (g : Nat) (cells : Array Value) (hx : a.eval x = .pointer (some ⟨g, 0, none⟩)) (hy : a.eval y = .agg cells)
    (t : TypeId) (old : Array Value) (hg : w.heap[g]? = some (.cells old t (0, 0))) (hi : (P.info? ty).map (·.size) = some cells.size)
    (hold : old.size = cells.size) (h1 : cells.all (·.oneCell') = true)
    (h : wpList P ops Q rest (a.put o.dst undef) (w.setRow g cells)) : wpList P ops Q (o :: rest) a w :=
 wpList_plain hgd fun _ hK => wp_store_row ty x y ho g cells hx hy t old hg hi hold h1 (hK _ _ h)
theorem owns_row16 {w : World} {base e sz n X : Nat} {v : Value} {xs : List Value} (h : w.ownsRow base e sz v n xs) (hX : X < base) (cs : Array Value) : (w.setRow X cs).ownsRow base e sz v n xs := by
 refine ⟨h.1, ?_⟩
 rcases h.2 with hn | ⟨g, cap, cur, rfl, hbase, hgg, rest⟩
 ·exact .inl hn
 ·exact .inr ⟨g, cap, cur, rfl, hbase, (setRow_other w X g cs (by omega)).trans hgg, rest⟩
theorem one16 (r0 r1 r2 r3 r4 r5 r6 r7 r8 r9 r10 r11 r12 r13 r14 r15 : Int) : (#[.int .i64 r0, .int .i64 r1, .int .i64 r2, .int .i64 r3, .int .i64 r4, .int .i64 r5, .int .i64 r6, .int .i64 r7, .int .i64 r8, .int .i64 r9, .int .i64 r10, .int .i64 r11, .int .i64 r12, .int .i64 r13, .int .i64 r14, .int .i64 r15] : Array Value).all (·.oneCell') = true := by simp [Value.oneCell']
theorem spai : (Tryz.prog.info? 29).map (·.size) = some 16 := by kernel_rfl
def eqB16 (x0 x1 x2 x3 x4 x5 x6 x7 x8 x9 x10 x11 x12 x13 x14 x15 y0 y1 y2 y3 y4 y5 y6 y7 y8 y9 y10 y11 y12 y13 y14 y15 : Int) : Bool := (x0 == y0 && (x1 == y1 && (x2 == y2 && (x3 == y3 && (x4 == y4 && (x5 == y5 && (x6 == y6 && (x7 == y7 && (x8 == y8 && (x9 == y9 && (x10 == y10 && (x11 == y11 && (x12 == y12 && (x13 == y13 && (x14 == y14 && (x15 == y15 && true))))))))))))))))
theorem eql16' (x0 x1 x2 x3 x4 x5 x6 x7 x8 x9 x10 x11 x12 x13 x14 x15 y0 y1 y2 y3 y4 y5 y6 y7 y8 y9 y10 y11 y12 y13 y14 y15 : Int) (w : World) : (binOp .eql 29 (.agg #[.int .i64 x0, .int .i64 x1, .int .i64 x2, .int .i64 x3, .int .i64 x4, .int .i64 x5, .int .i64 x6, .int .i64 x7, .int .i64 x8, .int .i64 x9, .int .i64 x10, .int .i64 x11, .int .i64 x12, .int .i64 x13, .int .i64 x14, .int .i64 x15]) (.agg #[.int .i64 y0, .int .i64 y1, .int .i64 y2, .int .i64 y3, .int .i64 y4, .int .i64 y5, .int .i64 y6, .int .i64 y7, .int .i64 y8, .int .i64 y9, .int .i64 y10, .int .i64 y11, .int .i64 y12, .int .i64 y13, .int .i64 y14, .int .i64 y15])).run Tryz.prog w = .ok (.bool (eqB16 x0 x1 x2 x3 x4 x5 x6 x7 x8 x9 x10 x11 x12 x13 x14 x15 y0 y1 y2 y3 y4 y5 y6 y7 y8 y9 y10 y11 y12 y13 y14 y15)) w := eql16 x0 x1 x2 x3 x4 x5 x6 x7 x8 x9 x10 x11 x12 x13 x14 x15 y0 y1 y2 y3 y4 y5 y6 y7 y8 y9 y10 y11 y12 y13 y14 y15 w
theorem eqB_dec (p q : Pai) : eqB16 p.a.tgt p.a.band p.a.dly p.a.stp p.a.lo p.a.hi p.b.tgt p.b.band p.b.dly p.b.stp p.b.lo p.b.hi p.ma.tap p.ma.wait p.mb.tap p.mb.wait q.a.tgt q.a.band q.a.dly q.a.stp q.a.lo q.a.hi q.b.tgt q.b.band q.b.dly q.b.stp q.b.lo q.b.hi q.ma.tap q.ma.wait q.mb.tap q.mb.wait = decide (p = q) := eqP_dec p q
theorem pcl_at {w : World} {a : Option Addr} {n : Nat} {l : List Pai} (h : SlR w a n 16 (pcl l)) (hn : 0 < n) : ∃ b o, a = some ⟨b, o, none⟩ ∧ b < w.heap.size ∧ ∀ (j : Nat) (p : Pai), l[j]? = some p → (w.cell? ⟨b, o + j * 16, none⟩ = some (.int .i64 p.a.tgt) ∧ w.cell? ⟨b, o + j * 16 + 1, none⟩ = some (.int .i64 p.a.band) ∧ w.cell? ⟨b, o + j * 16 + 2, none⟩ = some (.int .i64 p.a.dly) ∧ w.cell? ⟨b, o + j * 16 + 3, none⟩ = some (.int .i64 p.a.stp) ∧ w.cell? ⟨b, o + j * 16 + 4, none⟩ = some (.int .i64 p.a.lo) ∧ w.cell? ⟨b, o + j * 16 + 5, none⟩ = some (.int .i64 p.a.hi) ∧ w.cell? ⟨b, o + j * 16 + 6, none⟩ = some (.int .i64 p.b.tgt) ∧ w.cell? ⟨b, o + j * 16 + 7, none⟩ = some (.int .i64 p.b.band) ∧ w.cell? ⟨b, o + j * 16 + 8, none⟩ = some (.int .i64 p.b.dly) ∧ w.cell? ⟨b, o + j * 16 + 9, none⟩ = some (.int .i64 p.b.stp) ∧ w.cell? ⟨b, o + j * 16 + 10, none⟩ = some (.int .i64 p.b.lo) ∧ w.cell? ⟨b, o + j * 16 + 11, none⟩ = some (.int .i64 p.b.hi) ∧ w.cell? ⟨b, o + j * 16 + 12, none⟩ = some (.int .i64 p.ma.tap) ∧ w.cell? ⟨b, o + j * 16 + 13, none⟩ = some (.int .i64 p.ma.wait) ∧ w.cell? ⟨b, o + j * 16 + 14, none⟩ = some (.int .i64 p.mb.tap) ∧ w.cell? ⟨b, o + j * 16 + 15, none⟩ = some (.int .i64 p.mb.wait)) := by
 obtain ⟨b, o, h1, h2, h3⟩ := h.addr hn
 refine ⟨b, o, h1, h2, fun j p hp => ?_⟩
 have key := fun q (hq : q < 16) => h3 (j * 16 + q) ((pai16 p)[q]'(by show q < 16; exact hq)) ((pcl_get l j p hp q hq).trans (List.getElem?_eq_getElem _))
 exact ⟨by have h := key 0 (by omega); rw [Nat.add_zero] at h; exact h, by have h := key 1 (by omega); rw [← Nat.add_assoc] at h; exact h, by have h := key 2 (by omega); rw [← Nat.add_assoc] at h; exact h, by have h := key 3 (by omega); rw [← Nat.add_assoc] at h; exact h, by have h := key 4 (by omega); rw [← Nat.add_assoc] at h; exact h, by have h := key 5 (by omega); rw [← Nat.add_assoc] at h; exact h, by have h := key 6 (by omega); rw [← Nat.add_assoc] at h; exact h, by have h := key 7 (by omega); rw [← Nat.add_assoc] at h; exact h, by have h := key 8 (by omega); rw [← Nat.add_assoc] at h; exact h, by have h := key 9 (by omega); rw [← Nat.add_assoc] at h; exact h, by have h := key 10 (by omega); rw [← Nat.add_assoc] at h; exact h, by have h := key 11 (by omega); rw [← Nat.add_assoc] at h; exact h, by have h := key 12 (by omega); rw [← Nat.add_assoc] at h; exact h, by have h := key 13 (by omega); rw [← Nat.add_assoc] at h; exact h, by have h := key 14 (by omega); rw [← Nat.add_assoc] at h; exact h, by have h := key 15 (by omega); rw [← Nat.add_assoc] at h; exact h⟩
attribute [local go_sem high] eql16'
set_option maxHeartbeats 40000000 in
set_option maxRecDepth 100000 in
theorem rPairRests_any (p : Pai) (d : Int) (w : World) (hp : PaiV p) (hf : PaiF p) (hd : -10000 ≤ d ∧ d ≤ 10000) :
    Calls Tryz.prog 12 #[.agg #[.int .i64 (p).a.tgt, .int .i64 (p).a.band, .int .i64 (p).a.dly, .int .i64 (p).a.stp, .int .i64 (p).a.lo, .int .i64 (p).a.hi, .int .i64 (p).b.tgt, .int .i64 (p).b.band, .int .i64 (p).b.dly, .int .i64 (p).b.stp, .int .i64 (p).b.lo, .int .i64 (p).b.hi, .int .i64 (p).ma.tap, .int .i64 (p).ma.wait, .int .i64 (p).mb.tap, .int .i64 (p).mb.wait], .int .i64 d] w fun e' w' => ∃ n b, PrR p d n b ∧ e' = .returned (.tuple #[.int .i64 n, .bool b]) ∧ Below w.heap.size w w' := by
 have HPR := Lib.hid (fun (k : Nat) (W : World) => show Calls Tryz.prog 11 #[.agg #[.int .i64 (itr (tickP d) p k).a.tgt, .int .i64 (itr (tickP d) p k).a.band, .int .i64 (itr (tickP d) p k).a.dly, .int .i64 (itr (tickP d) p k).a.stp, .int .i64 (itr (tickP d) p k).a.lo, .int .i64 (itr (tickP d) p k).a.hi, .int .i64 (itr (tickP d) p k).b.tgt, .int .i64 (itr (tickP d) p k).b.band, .int .i64 (itr (tickP d) p k).b.dly, .int .i64 (itr (tickP d) p k).b.stp, .int .i64 (itr (tickP d) p k).b.lo, .int .i64 (itr (tickP d) p k).b.hi, .int .i64 (itr (tickP d) p k).ma.tap, .int .i64 (itr (tickP d) p k).ma.wait, .int .i64 (itr (tickP d) p k).mb.tap, .int .i64 (itr (tickP d) p k).mb.wait], .int .i64 d] W (fun e' w' => e' = .returned (.agg #[.int .i64 (itr (tickP d) p (k + 1)).a.tgt, .int .i64 (itr (tickP d) p (k + 1)).a.band, .int .i64 (itr (tickP d) p (k + 1)).a.dly, .int .i64 (itr (tickP d) p (k + 1)).a.stp, .int .i64 (itr (tickP d) p (k + 1)).a.lo, .int .i64 (itr (tickP d) p (k + 1)).a.hi, .int .i64 (itr (tickP d) p (k + 1)).b.tgt, .int .i64 (itr (tickP d) p (k + 1)).b.band, .int .i64 (itr (tickP d) p (k + 1)).b.dly, .int .i64 (itr (tickP d) p (k + 1)).b.stp, .int .i64 (itr (tickP d) p (k + 1)).b.lo, .int .i64 (itr (tickP d) p (k + 1)).b.hi, .int .i64 (itr (tickP d) p (k + 1)).ma.tap, .int .i64 (itr (tickP d) p (k + 1)).ma.wait, .int .i64 (itr (tickP d) p (k + 1)).mb.tap, .int .i64 (itr (tickP d) p (k + 1)).mb.wait]) ∧ Below W.heap.size W w') from rPairRegulated_any (itr (tickP d) p k) d W (itr_inv (p := PaiV) (tickP_valid d) hp k) hd)
 have HLS := Lib.hid (fun k => show lastM (tickP d) (mvP d) p (k + 1) = if (decide ((itr (tickP d) p (k + 1)).ma.tap ≠ (itr (tickP d) p k).ma.tap) || decide ((itr (tickP d) p (k + 1)).mb.tap ≠ (itr (tickP d) p k).mb.tap)) = true then k + 1 else lastM (tickP d) (mvP d) p k from by
  show (if mvP d (itr (tickP d) p k) = true then k + 1 else _) = _
  unfold mvP
  simp only [ne_comm]
  rfl)
 have HBD := Lib.hid (fun (T : Nat) (h : ∀ i j, i < j → j < T → itr (tickP d) p i ≠ itr (tickP d) p j) => few_bound hp hf h)
 have HPR0 := Lib.hid (fun n b (h : ∃ T fr, Rep (tickP d) p T fr ∧ n = ((lastM (tickP d) (mvP d) p T : Nat) : Int) ∧ b = decide (lastM (tickP d) (mvP d) p T ≤ fr)) => show PrR p d n b from h)
 have HRP := Lib.hid (fun (T fr : Nat) (h1 : fr < T) (h2 : itr (tickP d) p fr = itr (tickP d) p T) (h3 : ∀ i j, i < j → j < T → itr (tickP d) p i ≠ itr (tickP d) p j) => show PrR p d ((lastM (tickP d) (mvP d) p T : Nat) : Int) (decide (lastM (tickP d) (mvP d) p T ≤ fr)) from ⟨T, fr, ⟨h1, h2, h3⟩, rfl, rfl⟩)
 have HI0 := Lib.hid (show itr (tickP d) p 0 = p from rfl)
 have HL0 := Lib.hid (show lastM (tickP d) (mvP d) p 0 = 0 from rfl)
 have HLE := Lib.hid (fun k => lastM_le (tickP d) (mvP d) p k)
 have HSS := Lib.hid (fun n => stL_succ (tickP d) p n)
 have HSG := Lib.hid (fun n k (h : k < n) => stL_get (tickP d) p h)
 have HS0 := Lib.hid (show stL (tickP d) p 0 = [] from rfl)
 generalize PrR p d = PR at *
 generalize stL (tickP d) p = SL at *
 generalize lastM (tickP d) (mvP d) p = LM at *
 generalize itr (tickP d) p = IT at *
 obtain ⟨⟨tgt, band, dly, stp, lo, hi⟩, ⟨tgt2, band2, dly2, stp2, lo2, hi2⟩, ⟨tap, wait⟩, ⟨tap2, wait2⟩⟩ := p
 simp only
 clear hp hf hd HPR0
 go_enter Tryz.func12, Tryz.ntmps12
 go_wp2_with fail
 obtain ⟨w1, hW⟩ : ∃ w1, w1 = w.alloc (Obj.cells #[.int .i64 tgt, .int .i64 band, .int .i64 dly, .int .i64 stp, .int .i64 lo, .int .i64 hi, .int .i64 tgt2, .int .i64 band2, .int .i64 dly2, .int .i64 stp2, .int .i64 lo2, .int .i64 hi2, .int .i64 tap, .int .i64 wait, .int .i64 tap2, .int .i64 wait2] 29) := ⟨_, rfl⟩
 obtain ⟨hb1, k1⟩ := alA1 w (Obj.cells #[.int .i64 tgt, .int .i64 band, .int .i64 dly, .int .i64 stp, .int .i64 lo, .int .i64 hi, .int .i64 tgt2, .int .i64 band2, .int .i64 dly2, .int .i64 stp2, .int .i64 lo2, .int .i64 hi2, .int .i64 tap, .int .i64 wait, .int .i64 tap2, .int .i64 wait2] 29)
 rw [← hW] at hb1 k1
 have hz1 : w1.heap.size = w.heap.size + 1 := by rw [hW]; simp
 rw [← hW]
 obtain ⟨X1, hX1⟩ : ∃ X, X = w.heap.size := ⟨_, rfl⟩
 rw [← hX1] at k1
 simp only [← hX1]
 have hw1 : w.heap.size ≤ X1 := by omega
 have h1b : X1 < w1.heap.size := by omega
 have K1 := Lib.hid (show BlkR w1 X1 (.cells #[.int .i64 (IT 0).a.tgt, .int .i64 (IT 0).a.band, .int .i64 (IT 0).a.dly, .int .i64 (IT 0).a.stp, .int .i64 (IT 0).a.lo, .int .i64 (IT 0).a.hi, .int .i64 (IT 0).b.tgt, .int .i64 (IT 0).b.band, .int .i64 (IT 0).b.dly, .int .i64 (IT 0).b.stp, .int .i64 (IT 0).b.lo, .int .i64 (IT 0).b.hi, .int .i64 (IT 0).ma.tap, .int .i64 (IT 0).ma.wait, .int .i64 (IT 0).mb.tap, .int .i64 (IT 0).mb.wait] 29) from by rw [HI0.out]; exact k1)
 have HB := Lib.hid hb1
 clear hW hX1 k1 hb1 hz1
 go_wp2_with fail
 go_loopw [6, 7, 8] (fun v x y wr => ∃ (k : Nat) (av : Option Addr) (cv : Nat), v = .slice av k cv ∧ x = .int .i64 ((LM k : Nat) : Int) ∧ y = .int .i64 (k : Int) ∧ Hid (∀ i j, i < j → j < k → IT i ≠ IT j) ∧ Hid (wr.ownsRow w1.heap.size 29 16 (.slice av k cv) k (pcl (SL k))) ∧ Hid (BlkR wr X1 (.cells #[.int .i64 (IT k).a.tgt, .int .i64 (IT k).a.band, .int .i64 (IT k).a.dly, .int .i64 (IT k).a.stp, .int .i64 (IT k).a.lo, .int .i64 (IT k).a.hi, .int .i64 (IT k).b.tgt, .int .i64 (IT k).b.band, .int .i64 (IT k).b.dly, .int .i64 (IT k).b.stp, .int .i64 (IT k).b.lo, .int .i64 (IT k).b.hi, .int .i64 (IT k).ma.tap, .int .i64 (IT k).ma.wait, .int .i64 (IT k).mb.tap, .int .i64 (IT k).mb.wait] 29)) ∧ Hid (Below w.heap.size w wr) ∧ w1.heap.size ≤ wr.heap.size) (fun _ _ y _ => 5000 - (intOf y).toNat)
 case atStart => exact ⟨0, none, 0, rfl, by rw [HL0.out]; rfl, rfl, Lib.hid (fun i j h1 h2 => absurd h2 (by omega)), Lib.hid (by rw [HS0.out]; exact World.ownsRow_nil _ _ _ _), K1, HB, Nat.le_refl _⟩
 case round =>
  clear K1 HB
  obtain ⟨k, av, cv, rfl, rfl, rfl, HIJ, HO, K1, HB, hzr⟩ := hrel
  have hk5 : k ≤ 3969 := HBD.out k HIJ.out
  have i0 : (0 : Int) ≤ (k : Int) := by omega
  have HLEk := Lib.hid (HLE.out k)
  go_wp2_with fail
  go_loopw [9] (fun x ws => ∃ j : Nat, x = .int .i64 (j : Int) ∧ j ≤ k ∧ Hid (∀ i, i < j → IT i ≠ IT k) ∧ ∃ m, ws = wr.drewN m) (fun x _ => k - (intOf x).toNat)
  case atStart => exact ⟨0, rfl, by omega, Lib.hid (fun i h => absurd h (by omega)), 0, rfl⟩
  case round =>
   obtain ⟨j, rfl, hj, HJ, m, rfl⟩ := hrel
   have j0 : (0 : Int) ≤ (j : Int) := by omega
   by_cases hlt : j < k
   ·have j1 : (j : Int) < (k : Int) := by omega
    obtain ⟨b, o, rfl, hb, hc⟩ := pcl_at (w := wr) (SlR.of_owns HO.out) (by omega)
    have hcj := hc j (IT j) (HSG.out k j hlt)
    have hd := eqB_dec (IT j) (IT k)
    have HRPj := Lib.hid (HRP.out k j hlt)
    have HIJk := Lib.hid (show j < k from hlt)
    have hnx := fun (he : ¬ IT j = IT k) => show ∀ i, i < j + 1 → IT i ≠ IT k from fun i hi => by
     by_cases hij : i = j
     ·subst hij; exact he
     ·exact HJ.out i (by omega)
    have HNX := Lib.hid hnx
    clear hnx
    by_cases he : IT j = IT k
    ·as_aux_lemma =>
     have HR := Lib.hid (HRPj.out he HIJ.out)
     rw [decide_eq_true he, he] at hd
     rw [he] at hcj
     obtain ⟨PK, hPK⟩ : ∃ x, x = IT k := ⟨_, rfl⟩
     rw [← hPK] at hcj K1 hd
     obtain ⟨⟨q0, q1, q2, q3, q4, q5⟩, ⟨q6, q7, q8, q9, q10, q11⟩, ⟨q12, q13⟩, ⟨q14, q15⟩⟩ := PK
     simp only at hcj K1 hd
     obtain ⟨z_0, z_1, z_2, z_3, z_4, z_5, z_6, z_7, z_8, z_9, z_10, z_11, z_12, z_13, z_14, z_15⟩ := hcj
     have c_0 := blk_cell K1.out (i := 0) rfl
     have c_1 := blk_cell K1.out (i := 1) rfl
     have c_2 := blk_cell K1.out (i := 2) rfl
     have c_3 := blk_cell K1.out (i := 3) rfl
     have c_4 := blk_cell K1.out (i := 4) rfl
     have c_5 := blk_cell K1.out (i := 5) rfl
     have c_6 := blk_cell K1.out (i := 6) rfl
     have c_7 := blk_cell K1.out (i := 7) rfl
     have c_8 := blk_cell K1.out (i := 8) rfl
     have c_9 := blk_cell K1.out (i := 9) rfl
     have c_10 := blk_cell K1.out (i := 10) rfl
     have c_11 := blk_cell K1.out (i := 11) rfl
     have c_12 := blk_cell K1.out (i := 12) rfl
     have c_13 := blk_cell K1.out (i := 13) rfl
     have c_14 := blk_cell K1.out (i := 14) rfl
     have c_15 := blk_cell K1.out (i := 15) rfl
     have l1 := K1.out.lt
     clear hPK hc he
     go_wp2_with fail
     refine drew_of_eq 5 (by kernel_rfl) (by kernel_rfl) ?_; simp only [List.take_succ_cons, List.take_zero, List.drop_succ_cons, List.drop_zero]; repeat go_big_quiet_step(fail)
     refine wpQuiet_nil ?_; intro m5
     go_wp2
     go_ret2
     first | exact ⟨_, _, HR.out, rfl, by have := HB.out; (first|exact bwg|go_size)⟩ | (trace_state; fail)
    ·as_aux_lemma =>
     rw [decide_eq_false he] at hd
     have HNX := Lib.hid (HNX.out he)
     obtain ⟨PJ, hPJ⟩ : ∃ x, x = IT j := ⟨_, rfl⟩
     obtain ⟨PK, hPK⟩ : ∃ x, x = IT k := ⟨_, rfl⟩
     rw [← hPJ] at hcj hd
     rw [← hPK] at hd K1
     obtain ⟨⟨p0, p1, p2, p3, p4, p5⟩, ⟨p6, p7, p8, p9, p10, p11⟩, ⟨p12, p13⟩, ⟨p14, p15⟩⟩ := PJ
     obtain ⟨⟨q0, q1, q2, q3, q4, q5⟩, ⟨q6, q7, q8, q9, q10, q11⟩, ⟨q12, q13⟩, ⟨q14, q15⟩⟩ := PK
     simp only at hcj hd K1
     obtain ⟨z_0, z_1, z_2, z_3, z_4, z_5, z_6, z_7, z_8, z_9, z_10, z_11, z_12, z_13, z_14, z_15⟩ := hcj
     have c_0 := blk_cell K1.out (i := 0) rfl
     have c_1 := blk_cell K1.out (i := 1) rfl
     have c_2 := blk_cell K1.out (i := 2) rfl
     have c_3 := blk_cell K1.out (i := 3) rfl
     have c_4 := blk_cell K1.out (i := 4) rfl
     have c_5 := blk_cell K1.out (i := 5) rfl
     have c_6 := blk_cell K1.out (i := 6) rfl
     have c_7 := blk_cell K1.out (i := 7) rfl
     have c_8 := blk_cell K1.out (i := 8) rfl
     have c_9 := blk_cell K1.out (i := 9) rfl
     have c_10 := blk_cell K1.out (i := 10) rfl
     have c_11 := blk_cell K1.out (i := 11) rfl
     have c_12 := blk_cell K1.out (i := 12) rfl
     have c_13 := blk_cell K1.out (i := 13) rfl
     have c_14 := blk_cell K1.out (i := 14) rfl
     have c_15 := blk_cell K1.out (i := 15) rfl
     have l1 := K1.out.lt
     clear hPJ hPK hc he
     go_wp2_with fail
     refine drew_of_eq 5 (by kernel_rfl) (by kernel_rfl) ?_; simp only [List.take_succ_cons, List.take_zero, List.drop_succ_cons, List.drop_zero]; repeat go_big_quiet_step(fail)
     refine wpQuiet_nil ?_; intro m5
     go_wp2
     refine ⟨⟨j + 1, by go_num, by omega, HNX, _, rfl⟩, ?_⟩
     simp only [intOf]; omega
   ·obtain rfl : j = k := by omega
    have j1 : ¬ (j : Int) < (j : Int) := by omega
    have HIJ2 := Lib.hid (show ∀ a b, a < b → b < j + 1 → IT a ≠ IT b from fun a b h1 h2 => by
     by_cases hb : b = j
     ·subst hb; exact HJ.out a h1
     ·exact HIJ.out a b h1 (by omega))
    have HOm := Lib.hid (owns_drewN HO.out m)
    have HBm := Lib.hid (HB.out.drewN m)
    have hzm : w1.heap.size ≤ (wr.drewN m).heap.size := by simpa using hzr
    have K1m := Lib.hid (show BlkR (wr.drewN m) X1 _ from BlkR.below K1.out (by (first|exact bwg|go_size)))
    clear HO HB K1 hzr
    generalize wr.drewN m = w2 at *
    have K1 := K1m
    have HB := HBm
    have HPK := Lib.hid (HPR.out j)
    have HLk := Lib.hid (HLS.out j)
    have HSk := Lib.hid (HSS.out j)
    obtain ⟨PK, hPK⟩ : ∃ x, x = IT j := ⟨_, rfl⟩
    obtain ⟨PN, hPN⟩ : ∃ x, x = IT (j + 1) := ⟨_, rfl⟩
    have HPN := Lib.hid hPN
    rw [← hPK] at K1 HPK HLk HSk
    rw [← hPN] at HPK HLk
    obtain ⟨⟨q0, q1, q2, q3, q4, q5⟩, ⟨q6, q7, q8, q9, q10, q11⟩, ⟨q12, q13⟩, ⟨q14, q15⟩⟩ := PK
    obtain ⟨⟨r0, r1, r2, r3, r4, r5⟩, ⟨r6, r7, r8, r9, r10, r11⟩, ⟨r12, r13⟩, ⟨r14, r15⟩⟩ := PN
    simp only at K1 HPK HLk
    have c_0 := blk_cell K1.out (i := 0) rfl
    have c_1 := blk_cell K1.out (i := 1) rfl
    have c_2 := blk_cell K1.out (i := 2) rfl
    have c_3 := blk_cell K1.out (i := 3) rfl
    have c_4 := blk_cell K1.out (i := 4) rfl
    have c_5 := blk_cell K1.out (i := 5) rfl
    have c_6 := blk_cell K1.out (i := 6) rfl
    have c_7 := blk_cell K1.out (i := 7) rfl
    have c_8 := blk_cell K1.out (i := 8) rfl
    have c_9 := blk_cell K1.out (i := 9) rfl
    have c_10 := blk_cell K1.out (i := 10) rfl
    have c_11 := blk_cell K1.out (i := 11) rfl
    have c_12 := blk_cell K1.out (i := 12) rfl
    have c_13 := blk_cell K1.out (i := 13) rfl
    have c_14 := blk_cell K1.out (i := 14) rfl
    have c_15 := blk_cell K1.out (i := 15) rfl
    have l1 := K1.out.lt
    clear hPK hPN
    have HSL := Lib.hid (show SlR (w2.alloc (Obj.cells #[.int .i64 q0, .int .i64 q1, .int .i64 q2, .int .i64 q3, .int .i64 q4, .int .i64 q5, .int .i64 q6, .int .i64 q7, .int .i64 q8, .int .i64 q9, .int .i64 q10, .int .i64 q11, .int .i64 q12, .int .i64 q13, .int .i64 q14, .int .i64 q15] 29)) (some ⟨w2.heap.size, 0, none⟩) 1 16 (pai16 ⟨⟨q0, q1, q2, q3, q4, q5⟩, ⟨q6, q7, q8, q9, q10, q11⟩, ⟨q12, q13⟩, ⟨q14, q15⟩⟩) from SlR.lit w2 _ [.int .i64 q0, .int .i64 q1, .int .i64 q2, .int .i64 q3, .int .i64 q4, .int .i64 q5, .int .i64 q6, .int .i64 q7, .int .i64 q8, .int .i64 q9, .int .i64 q10, .int .i64 q11, .int .i64 q12, .int .i64 q13, .int .i64 q14, .int .i64 q15] _ _ 1 16 rfl (by simp) rfl (by omega))
    have HOA := Lib.hid (HOm.out.alloc (Obj.cells #[.int .i64 q0, .int .i64 q1, .int .i64 q2, .int .i64 q3, .int .i64 q4, .int .i64 q5, .int .i64 q6, .int .i64 q7, .int .i64 q8, .int .i64 q9, .int .i64 q10, .int .i64 q11, .int .i64 q12, .int .i64 q13, .int .i64 q14, .int .i64 q15] 29))
    have HBA := Lib.hid (HB.out.alloc HB.out.size (Obj.cells #[.int .i64 q0, .int .i64 q1, .int .i64 q2, .int .i64 q3, .int .i64 q4, .int .i64 q5, .int .i64 q6, .int .i64 q7, .int .i64 q8, .int .i64 q9, .int .i64 q10, .int .i64 q11, .int .i64 q12, .int .i64 q13, .int .i64 q14, .int .i64 q15] 29))
    have KA := Lib.hid (blk_al K1.out (Obj.cells #[.int .i64 q0, .int .i64 q1, .int .i64 q2, .int .i64 q3, .int .i64 q4, .int .i64 q5, .int .i64 q6, .int .i64 q7, .int .i64 q8, .int .i64 q9, .int .i64 q10, .int .i64 q11, .int .i64 q12, .int .i64 q13, .int .i64 q14, .int .i64 q15] 29))
    have hzA : w1.heap.size ≤ (w2.alloc (Obj.cells #[.int .i64 q0, .int .i64 q1, .int .i64 q2, .int .i64 q3, .int .i64 q4, .int .i64 q5, .int .i64 q6, .int .i64 q7, .int .i64 q8, .int .i64 q9, .int .i64 q10, .int .i64 q11, .int .i64 q12, .int .i64 q13, .int .i64 q14, .int .i64 q15] 29)).heap.size := by rw [World.size_alloc]; omega
    clear HOm HBm K1m
    go_wp2_with (at_builtin; refine wpList_append_sl _ rfl _ _ 96 rfl w1.heap.size 29 _ 16 128 Tryz.underlying96 infoPai rfl (by omega) _ j _ rfl HOA.out _ 1 1 (pai16 _) rfl HSL.out (pcl_one _) (by omega) (by omega) hzA ?_)
    intro v2 w3 hown2 hgr2 hb2
    obtain ⟨av2, cv2, rfl, _, _⟩ := owns_slice hown2
    have HO3 := Lib.hid (show w3.ownsRow w1.heap.size 29 16 (.slice av2 (j + 1) cv2) (j + 1) (pcl (SL (j + 1))) from by rw [HSk.out, pcl_snoc]; exact hown2)
    have HB3 := Lib.hid (HBA.out.trans (hb2.mono (by have := HB.out.size; omega)))
    have K3 := Lib.hid (show BlkR w3 X1 _ from (hb2.block X1 h1b).trans KA.out)
    have hz3 : w1.heap.size ≤ w3.heap.size := by have := hb2.size; omega
    clear hown2 hgr2 hb2 HSL HOA HBA KA hzA HSk HB K1 c_0 c_1 c_2 c_3 c_4 c_5 c_6 c_7 c_8 c_9 c_10 c_11 c_12 c_13 c_14 c_15 l1
    have c_0 := blk_cell K3.out (i := 0) rfl
    have c_1 := blk_cell K3.out (i := 1) rfl
    have c_2 := blk_cell K3.out (i := 2) rfl
    have c_3 := blk_cell K3.out (i := 3) rfl
    have c_4 := blk_cell K3.out (i := 4) rfl
    have c_5 := blk_cell K3.out (i := 5) rfl
    have c_6 := blk_cell K3.out (i := 6) rfl
    have c_7 := blk_cell K3.out (i := 7) rfl
    have c_8 := blk_cell K3.out (i := 8) rfl
    have c_9 := blk_cell K3.out (i := 9) rfl
    have c_10 := blk_cell K3.out (i := 10) rfl
    have c_11 := blk_cell K3.out (i := 11) rfl
    have c_12 := blk_cell K3.out (i := 12) rfl
    have c_13 := blk_cell K3.out (i := 13) rfl
    have c_14 := blk_cell K3.out (i := 14) rfl
    have c_15 := blk_cell K3.out (i := 15) rfl
    have l1 := K3.out.lt
    go_wp2_with fail
    refine (HPK.out _).mono ?_
    rintro e4 w4 ⟨rfl, hb4⟩
    have HO4 := Lib.hid (owns_below HO3.out hb4 (fun q hq => (HO3.out.lt q hq).2))
    have HB4 := bwt HB3 hb4
    have K4 := Lib.hid (K3.out.below hb4)
    have hz4 : w1.heap.size ≤ w4.heap.size := by have := hb4.size; omega
    clear HO3 HB3 K3 hz3 c_0 c_1 c_2 c_3 c_4 c_5 c_6 c_7 c_8 c_9 c_10 c_11 c_12 c_13 c_14 c_15 l1 hb4
    go_upto_region 12 with (fail)
    obtain ⟨w5, hW5⟩ : ∃ w5, w5 = w4.alloc (Obj.cells #[.int .i64 r0, .int .i64 r1, .int .i64 r2, .int .i64 r3, .int .i64 r4, .int .i64 r5, .int .i64 r6, .int .i64 r7, .int .i64 r8, .int .i64 r9, .int .i64 r10, .int .i64 r11, .int .i64 r12, .int .i64 r13, .int .i64 r14, .int .i64 r15] 29) := ⟨_, rfl⟩
    obtain ⟨hb5, kN⟩ := alA1 w4 (Obj.cells #[.int .i64 r0, .int .i64 r1, .int .i64 r2, .int .i64 r3, .int .i64 r4, .int .i64 r5, .int .i64 r6, .int .i64 r7, .int .i64 r8, .int .i64 r9, .int .i64 r10, .int .i64 r11, .int .i64 r12, .int .i64 r13, .int .i64 r14, .int .i64 r15] 29)
    rw [← hW5] at hb5 kN
    rw [← hW5]
    obtain ⟨XN, hXN⟩ : ∃ X, X = w4.heap.size := ⟨_, rfl⟩
    rw [← hXN] at kN
    simp only [← hXN]
    have KN := Lib.hid kN
    have HO5 := Lib.hid (owns_below HO4 hb5 (fun q hq => (HO4.lt q hq).2))
    have HB5 := bwt HB4 hb5
    have K5 := Lib.hid (K4.out.below hb5)
    have hz5 : w1.heap.size ≤ w5.heap.size := by have := hb5.size; omega
    clear hW5 hXN kN hb5 HO4 HB4 K4 hz4
    obtain ⟨B1, hB1⟩ : ∃ b, b = (r12 != q12) := ⟨_, rfl⟩
    obtain ⟨B2, hB2⟩ : ∃ b, b = (r14 != q14) := ⟨_, rfl⟩
    have HLq := Lib.hid (show ((LM (j + 1) : Nat) : Int) = if (B1 || B2) = true then (j : Int) + 1 else ((LM j : Nat) : Int) from by
     rw [HLk.out, hB1, hB2]
     by_cases h1 : r12 = q12 <;> by_cases h2 : r14 = q14 <;> simp [h1, h2])
    have e1 := hB1.symm
    have e2 := hB2.symm
    clear hB1 hB2 HLk
    have c_12 : w5.cell? ⟨X1, 12, none⟩ = some (.int .i64 q12) := blk_cell K5.out (i := 12) rfl
    have c_14 : w5.cell? ⟨X1, 14, none⟩ = some (.int .i64 q14) := blk_cell K5.out (i := 14) rfl
    have e_12 : w5.cell? ⟨XN, 12, none⟩ = some (.int .i64 r12) := blk_cell KN.out (i := 12) rfl
    have e_14 : w5.cell? ⟨XN, 14, none⟩ = some (.int .i64 r14) := blk_cell KN.out (i := 14) rfl
    have l1 := K5.out.lt
    have lN := KN.out.lt
    cases B1
    ·skip
     go_upto_if 51 with fail
     go_cut [7] from 11 to 54 (fun v7 wx => v7 = .int .i64 ((LM (j + 1) : Nat) : Int) ∧ wx = w5)
     case first =>
      cases B2
      all_goals
       have hlq := HLq.out
       simp only [Bool.or_false, Bool.or_true, Bool.false_eq_true, if_false, if_true] at hlq
       have HLz := Lib.hid hlq
       clear hlq HLq
       go_wp2_with fail
       go_meet
       case rel => exact ⟨by rw [HLz.out], rfl⟩
     case rest =>
      obtain ⟨rfl, hwc⟩ := hcut
      obtain rfl : w5 = wc := hwc.symm
      clear c_12 c_14 e_12 e_14 e1 e2 l1 lN HLq
      go_upto_region 14 with (fail)
      have hkn := KN.out
      have hk5 := K5.out
      go_wp2_with (first | refine wpList_load_row rfl 29 _ rfl XN rfl _ _ _ _ hkn Tryz.underlying29 rfl spai ?_ | refine wpList_store_row rfl 29 _ _ rfl X1 #[.int .i64 r0, .int .i64 r1, .int .i64 r2, .int .i64 r3, .int .i64 r4, .int .i64 r5, .int .i64 r6, .int .i64 r7, .int .i64 r8, .int .i64 r9, .int .i64 r10, .int .i64 r11, .int .i64 r12, .int .i64 r13, .int .i64 r14, .int .i64 r15] rfl rfl _ _ hk5 spai rfl (one16 r0 r1 r2 r3 r4 r5 r6 r7 r8 r9 r10 r11 r12 r13 r14 r15) ?_)
      have hkz := setRow_heap w5 X1 _ #[.int .i64 r0, .int .i64 r1, .int .i64 r2, .int .i64 r3, .int .i64 r4, .int .i64 r5, .int .i64 r6, .int .i64 r7, .int .i64 r8, .int .i64 r9, .int .i64 r10, .int .i64 r11, .int .i64 r12, .int .i64 r13, .int .i64 r14, .int .i64 r15] _ _ hk5
      have hbz := below_setRow HB5.out hw1 #[.int .i64 r0, .int .i64 r1, .int .i64 r2, .int .i64 r3, .int .i64 r4, .int .i64 r5, .int .i64 r6, .int .i64 r7, .int .i64 r8, .int .i64 r9, .int .i64 r10, .int .i64 r11, .int .i64 r12, .int .i64 r13, .int .i64 r14, .int .i64 r15]
      have hoz := owns_row16 HO5.out h1b #[.int .i64 r0, .int .i64 r1, .int .i64 r2, .int .i64 r3, .int .i64 r4, .int .i64 r5, .int .i64 r6, .int .i64 r7, .int .i64 r8, .int .i64 r9, .int .i64 r10, .int .i64 r11, .int .i64 r12, .int .i64 r13, .int .i64 r14, .int .i64 r15]
      have hsz := size_setRow w5 X1 #[.int .i64 r0, .int .i64 r1, .int .i64 r2, .int .i64 r3, .int .i64 r4, .int .i64 r5, .int .i64 r6, .int .i64 r7, .int .i64 r8, .int .i64 r9, .int .i64 r10, .int .i64 r11, .int .i64 r12, .int .i64 r13, .int .i64 r14, .int .i64 r15]
      generalize w5.setRow X1 #[.int .i64 r0, .int .i64 r1, .int .i64 r2, .int .i64 r3, .int .i64 r4, .int .i64 r5, .int .i64 r6, .int .i64 r7, .int .i64 r8, .int .i64 r9, .int .i64 r10, .int .i64 r11, .int .i64 r12, .int .i64 r13, .int .i64 r14, .int .i64 r15] = w6 at *
      refine ⟨⟨j + 1, av2, cv2, rfl, rfl, by go_num, HIJ2, Lib.hid hoz, Lib.hid (by rw [← HPN.out]; exact hkz), Lib.hid hbz, by rw [hsz]; exact hz5⟩, ?_⟩
      simp only [intOf]; omega
    ·skip
     go_upto_if 51 with fail
     go_cut [7] from 11 to 54 (fun v7 wx => v7 = .int .i64 ((LM (j + 1) : Nat) : Int) ∧ wx = w5)
     case first =>
      cases B2
      all_goals
       have hlq := HLq.out
       simp only [Bool.or_false, Bool.or_true, Bool.false_eq_true, if_false, if_true] at hlq
       have HLz := Lib.hid hlq
       clear hlq HLq
       go_wp2_with fail
       go_meet
       case rel => exact ⟨by rw [HLz.out], rfl⟩
     case rest =>
      obtain ⟨rfl, hwc⟩ := hcut
      obtain rfl : w5 = wc := hwc.symm
      clear c_12 c_14 e_12 e_14 e1 e2 l1 lN HLq
      go_upto_region 14 with (fail)
      have hkn := KN.out
      have hk5 := K5.out
      go_wp2_with (first | refine wpList_load_row rfl 29 _ rfl XN rfl _ _ _ _ hkn Tryz.underlying29 rfl spai ?_ | refine wpList_store_row rfl 29 _ _ rfl X1 #[.int .i64 r0, .int .i64 r1, .int .i64 r2, .int .i64 r3, .int .i64 r4, .int .i64 r5, .int .i64 r6, .int .i64 r7, .int .i64 r8, .int .i64 r9, .int .i64 r10, .int .i64 r11, .int .i64 r12, .int .i64 r13, .int .i64 r14, .int .i64 r15] rfl rfl _ _ hk5 spai rfl (one16 r0 r1 r2 r3 r4 r5 r6 r7 r8 r9 r10 r11 r12 r13 r14 r15) ?_)
      have hkz := setRow_heap w5 X1 _ #[.int .i64 r0, .int .i64 r1, .int .i64 r2, .int .i64 r3, .int .i64 r4, .int .i64 r5, .int .i64 r6, .int .i64 r7, .int .i64 r8, .int .i64 r9, .int .i64 r10, .int .i64 r11, .int .i64 r12, .int .i64 r13, .int .i64 r14, .int .i64 r15] _ _ hk5
      have hbz := below_setRow HB5.out hw1 #[.int .i64 r0, .int .i64 r1, .int .i64 r2, .int .i64 r3, .int .i64 r4, .int .i64 r5, .int .i64 r6, .int .i64 r7, .int .i64 r8, .int .i64 r9, .int .i64 r10, .int .i64 r11, .int .i64 r12, .int .i64 r13, .int .i64 r14, .int .i64 r15]
      have hoz := owns_row16 HO5.out h1b #[.int .i64 r0, .int .i64 r1, .int .i64 r2, .int .i64 r3, .int .i64 r4, .int .i64 r5, .int .i64 r6, .int .i64 r7, .int .i64 r8, .int .i64 r9, .int .i64 r10, .int .i64 r11, .int .i64 r12, .int .i64 r13, .int .i64 r14, .int .i64 r15]
      have hsz := size_setRow w5 X1 #[.int .i64 r0, .int .i64 r1, .int .i64 r2, .int .i64 r3, .int .i64 r4, .int .i64 r5, .int .i64 r6, .int .i64 r7, .int .i64 r8, .int .i64 r9, .int .i64 r10, .int .i64 r11, .int .i64 r12, .int .i64 r13, .int .i64 r14, .int .i64 r15]
      generalize w5.setRow X1 #[.int .i64 r0, .int .i64 r1, .int .i64 r2, .int .i64 r3, .int .i64 r4, .int .i64 r5, .int .i64 r6, .int .i64 r7, .int .i64 r8, .int .i64 r9, .int .i64 r10, .int .i64 r11, .int .i64 r12, .int .i64 r13, .int .i64 r14, .int .i64 r15] = w6 at *
      refine ⟨⟨j + 1, av2, cv2, rfl, rfl, by go_num, HIJ2, Lib.hid hoz, Lib.hid (by rw [← HPN.out]; exact hkz), Lib.hid hbz, by rw [hsz]; exact hz5⟩, ?_⟩
      simp only [intOf]; omega
end Go.Proofs.YtdjinmieogpgcaaGreat
/- A whole row of a block, by value: loads and stores that do not look into it. Plain laws of the model. -/
namespace Go.Proofs.YtdjinmieogpgcaaGreat
open Go.RowKit
set_option linter.unusedVariables false
section
variable {P : Program}
theorem strow {w : World} {g : Nat} {c c' : Array Value} {t : TypeId} (hg : w.heap[g]? = some (.cells c t)) (ho : c.size = c'.size) (h1 : ∀ v ∈ c'.toList, v.oneCell' = true) :
    (storeCells ⟨g, 0, none⟩ c'.toList 0).run P w = .ok () (w.setRow g c') := by
 have := run_storeCells_from (P := P) g t c'.toList 0 c w hg (by simp; omega) h1
 simpa using this
theorem strow_new {w : World} {c c' : Array Value} {t : TypeId} (ho : c.size = c'.size) (h1 : ∀ v ∈ c'.toList, v.oneCell' = true) :
    (storeCells ⟨w.heap.size, 0, none⟩ c'.toList 0).run P (w.alloc (.cells c t)) = .ok () (w.alloc (.cells c' t)) := by
 rw [strow (heap_alloc_last w _) ho h1, World.setRow_alloc_new]
theorem ldvar_cells {w : World} {g ty : Nat} {c : Array Value} {d : TypeDesc} (hc : ∀ j : Nat, j < c.size → w.cell? ⟨g, j, none⟩ = c[j]?)
    (hu : P.underlying ty = some d) (hd : (match d with | .struct _ | .array _ _ => true | _ => false) = true) (hi : (P.info? ty).map (·.size) = some c.size) :
    (loadVar ty ⟨g, 0, none⟩).run P w = .ok (.agg c) w := by
 have hl : (loadCells ⟨g, 0, none⟩ c.toList.length).run P w = .ok c.toList.toArray w :=
  run_loadCells_list (P := P) w ⟨g, 0, none⟩ c.toList (fun j v hv => by
   have hadd : (⟨g, 0, none⟩ : Addr).add j = ⟨g, j, none⟩ := by unfold Addr.add; split <;> simp_all
   have hj : j < c.size := by have := (List.getElem?_eq_some_iff.1 hv).1; simpa using this
   rw [hadd, hc j hj]
   simpa using hv)
 cases hq : P.info? ty with
 | none => simp [hq] at hi
 | some i =>
  have hs : i.size = c.size := by simpa [hq] using hi
  have hagg : (isAgg ty).run P w = .ok true w := by
   unfold isAgg
   rw [Sem.run_bind, run_underlying hu w]
   cases d <;> simp_all
  simp only [Array.length_toList, Array.toArray_toList] at hl
  simp [loadVar, Sem.run_bind, hagg, sizeOf, typeInfo, hq, hs, hl]
theorem ldvar_later {B b0 : Nat} {w : World} {g ty : Nat} {c : Array Value} {t : TypeId} {d : TypeDesc} (hg : w.heap[g]? = some (.cells c t)) (hB : g < B) (hne : g ≠ b0)
    (hu : P.underlying ty = some d) (hd : (match d with | .struct _ | .array _ _ => true | _ => false) = true) (hi : (P.info? ty).map (·.size) = some c.size) (u : LaterX B b0 w) :
    (loadVar ty ⟨g, 0, none⟩).run P u.world = .ok (.agg c) u.world :=
 ldvar_cells (fun j _ => by rw [u.same g j hB hne, cell_of_row w g j c t (0, 0) hg]) hu hd hi
theorem wpQuiet_row {ops : Array Oper} {C : World → Prop} {Q : Act → Prop} {a : Act} {o : Oper} {rest : List Oper} (hgd : o.guard = none) (ty : TypeId) (x : Operand) (ho : o.op = .load ty x)
    (g : Nat) (hx : a.eval x = .pointer (some ⟨g, 0, none⟩)) (c : Array Value) (hl : ∀ w, C w → (loadVar ty ⟨g, 0, none⟩).run P w = .ok (.agg c) w) (h : wpQuiet P ops C Q rest (a.put o.dst (.agg c))) : wpQuiet P ops C Q (o :: rest) a := by
 unfold wpQuiet
 rw [if_pos (by simp [Region.wanted, hgd])]
 refine ⟨_, fun w hw => ?_, h⟩
 unfold Oper.quietAt execOp
 simp only [ho, hx, Instr.loadAt, Instr.sureAddr, Sem.run_bind, Sem.run_pure, Result.andThen_ok, hl w hw]
 exact ⟨rfl, rfl⟩
theorem below_setRow {B X : Nat} {w0 w : World} (h : Below B w0 w) (hX : B ≤ X) (c : Array Value) : Below B w0 (w.setRow X c) :=
 h.trans ⟨rfl, rfl, rfl, by rw [setRow_size]; exact Nat.le_refl _, fun k hk => setRow_other w X k c (by omega)⟩
theorem sameX_setRow {B b0 : Nat} {w w1 : World} (h : SameX B b0 w w1) (c : Array Value) : SameX B b0 w (w1.setRow b0 c) := fun b o hb hne => by
 rw [cell_setRow_other w1 b0 c _ (by exact hne)]; exact h b o hb hne
theorem mapG_setRow {α : Type} {K : TypeId} {kl : α → Lit} {ok : α → Prop} {w : World} {b n X : Nat} {t : TypeId} {f : α → Option Value} {c : Array Value} (h : MapG P K kl ok w b n f) (hx : w.heap[X]? = some (.cells c t)) (c' : Array Value) : MapG P K kl ok (w.setRow X c') b n f := by
 refine h.other fun o ho hc hl => ?_
 rw [setRow_other w X b c' (fun e => ?_)]
 ·exact ho
 ·subst e; rw [hx] at ho; exact hc c t _ (Option.some.inj ho).symm
end
end Go.Proofs.YtdjinmieogpgcaaGreat
