import Derived.Test.YtdklmcicogmeaaaGreatDHear
import Derived.Test.YtdklmcicogmeaaaGreatMPlain0
import Derived.Test.YtdklmcicogmeaaaGreatMPlainInit
/- The answer for a cell: the program's function. -/
namespace Go.Proofs.YtdklmcicogmeaaaGreat
open Go.RowKit Go.Shelf
set_option linter.unusedVariables false
attribute [local go_sem] Oper.semAt_some

theorem infoRange : (Tryz.prog.info? 35).map (fun i => (i.zero, i.size, i.bytes)) = some (some (.agg #[.int .i64 0, .int .i64 0]), 2, 16) := by kernel_rfl
/-- All cells are as they were. -/
theorem SameCells.refl (w : World) : SameCells w w := fun _ _ _ _ h => h
theorem SameCells.trans {a b c : World} (h : SameCells a b) (h' : SameCells b c) : SameCells a c := fun k x t z hk => h' k x t z (h k x t z hk)
theorem SameCells.below {a b c : World} (h : SameCells a b) (h' : Below b.heap.size b c) : SameCells a c := fun k x t z hk => (h'.block k (Array.getElem?_eq_some_iff.1 (h k x t z hk)).1).trans (h k x t z hk)
theorem blk_of_cell {w : World} {b o : Nat} {v : Value} (h : w.cell? ⟨b, o, none⟩ = some v) : ∃ c t z, w.heap[b]? = some (.cells c t z) := by
  unfold World.cell? at h
  cases ho : w.heap[b]? with
  | none => simp [ho] at h
  | some ob => cases ob <;> simp_all
theorem SameCells.cell {w w' : World} (h : SameCells w w') {b o : Nat} {v : Value} (hc : w.cell? ⟨b, o, none⟩ = some v) : w'.cell? ⟨b, o, none⟩ = some v := by
  obtain ⟨c, t, z, hb⟩ := blk_of_cell hc
  have hb' := h _ _ _ _ hb
  unfold World.cell? at hc ⊢
  rw [hb'] ; rw [hb] at hc; exact hc
theorem SlR.same {w w' : World} {a : Option Addr} {n sz : Nat} {xs : List Value} (h : SlR w a n sz xs) (hs : SameCells w w') (hsz : w.heap.size ≤ w'.heap.size) : SlR w' a n sz xs := by
  refine ⟨h.1, h.2.1, fun hn => ?_⟩
  obtain ⟨b, o, ha, hlt, hc⟩ := h.2.2 hn
  exact ⟨b, o, ha, Nat.lt_of_lt_of_le hlt hsz, fun i u hu => hs.cell (hc i u hu)⟩
theorem ER.same {α : Type} {enc : α → List Value} {k : Nat} {w w' : World} {a : Option Addr} {n : Nat} {l : List α} (h : ER enc k w a n l) (hs : SameCells w w') (hsz : w.heap.size ≤ w'.heap.size) : ER enc k w' a n l := ⟨h.1, h.2.same hs hsz⟩
theorem take_map_snoc {α β : Type} {l : List α} {k : Nat} {x : α} (f : α → β) (h : l[k]? = some x) : (l.take (k + 1)).map f = (l.take k).map f ++ [f x] := by
  rw [List.take_add_one, h]; simp
theorem grid_ne {n i j i' j' : Nat} (hj : j < n) (hj' : j' < n) (h : i' * n + j' = i * n + j) : i' = i ∧ j' = j := by
  have h1 : (i' * n + j') / n = i' := by rw [Nat.mul_comm, Nat.mul_add_div (by omega), Nat.div_eq_of_lt hj']; omega
  have h2 : (i * n + j) / n = i := by rw [Nat.mul_comm, Nat.mul_add_div (by omega), Nat.div_eq_of_lt hj]; omega
  have h3 : i' = i := by rw [← h1, ← h2, h]
  subst h3
  exact ⟨rfl, by omega⟩
theorem ans_zero {g : Gri} {A : Arr} {c : T3} {i j : Nat} (hi : i < A.l.length) (hj : j < A.l.length) (hne : i ≠ j) (h : excl g A c i j = true) : ans g A c = 0 := by
  unfold ans
  rw [if_neg]
  intro h'
  have := allP_iff.1 h' i j hi hj hne
  simp [h] at this
theorem cells_set {W : World} {b : Nat} {t : TypeId} {x v : Value} (h : W.heap[b]? = some (.cells #[x] t)) : (W.setCell ⟨b, 0, none⟩ v).heap[b]? = some (.cells #[v] t) := by
  simp [World.setCell, Array.getElem?_modify, h]
theorem heap_set_ne {W : World} {b k : Nat} {v : Value} (h : k ≠ b) : (W.setCell ⟨b, 0, none⟩ v).heap[k]? = W.heap[k]? := by
  simp [World.setCell, Array.getElem?_modify, h.symm]
/-- What a range over the pairs keeps. -/
def RInv (lr D : Nat) (rec : Loop) (w wa W : World) : Prop := W.heap[lr]? = some (.loop rec) ∧ W.heap[D]? = some (.deferred (some [])) ∧ SameCells wa W ∧ wa.heap.size ≤ W.heap.size ∧ Below w.heap.size w W
theorem RInv.below {lr D : Nat} {rec : Loop} {w wa A B : World} (h : RInv lr D rec w wa A) (hb : Below A.heap.size A B) : RInv lr D rec w wa B :=
  ⟨(hb.block _ (Array.getElem?_eq_some_iff.1 h.1).1).trans h.1, (hb.block _ (Array.getElem?_eq_some_iff.1 h.2.1).1).trans h.2.1, h.2.2.1.below hb, Nat.le_trans h.2.2.2.1 hb.size, h.2.2.2.2.trans (hb.mono h.2.2.2.2.size)⟩
theorem SameCells.put {w w' : World} {l : Nat} {r r' : Loop} (h : SameCells w w') (hl : w'.heap[l]? = some (.loop r)) : SameCells w (w'.putObj l (.loop r')) := fun k c t z hk => by
  have h1 := h k c t z hk
  rw [World.putObj_heap_other (by rintro rfl; rw [hl] at h1; cases h1)]
  exact h1
/-- Where a round goes on: the record is ready again. -/
theorem RInv.ready {lr D : Nat} {rec RB : Loop} {w wa A1 W : World} (h1 : SameCells wa W) (h2 : wa.heap.size ≤ W.heap.size) (h3 : Below w.heap.size w W) (h4 : W.heap[lr]? = some (.loop RB)) (h5 : W.heap[D]? = some (.deferred (some []))) (hw : w.heap.size ≤ lr) : RInv lr D rec w wa (W.putObj lr (.loop rec)) :=
  ⟨World.putObj_heap_same (Array.getElem?_eq_some_iff.1 h4).1, (World.putObj_heap_other (by rintro rfl; rw [h5] at h4; cases h4)).trans h5, h1.put h4, by rw [World.putObj_size]; exact h2, h3.trans (belowK_b (w := w) (Nat.le_refl _) W lr _ _ hw h4 rfl rfl)⟩
/-- The marks of the loops so far. -/
def MK (w : World) (Ds : List Nat) (W : World) : Prop := Ds.Nodup ∧ ∀ D ∈ Ds, w.heap.size ≤ D ∧ W.heap[D]? = some (.deferred (some []))
theorem MK.below {w A B : World} {Ds : List Nat} (h : MK w Ds A) (hb : Below A.heap.size A B) : MK w Ds B := ⟨h.1, fun D hD => ⟨(h.2 D hD).1, (hb.block _ (Array.getElem?_eq_some_iff.1 (h.2 D hD).2).1).trans (h.2 D hD).2⟩⟩
theorem MK.put {w A : World} {Ds : List Nat} {l : Nat} {r r' : Loop} (h : MK w Ds A) (hl : A.heap[l]? = some (.loop r)) : MK w Ds (A.putObj l (.loop r')) := ⟨h.1, fun D hD => ⟨(h.2 D hD).1, (World.putObj_heap_other (by rintro rfl; rw [(h.2 D hD).2] at hl; cases hl)).trans (h.2 D hD).2⟩⟩
theorem MK.set {w A : World} {Ds : List Nat} {b : Nat} {t : TypeId} {x v : Value} (h : MK w Ds A) (hb : A.heap[b]? = some (.cells #[x] t)) : MK w Ds (A.setCell ⟨b, 0, none⟩ v) := ⟨h.1, fun D hD => ⟨(h.2 D hD).1, (heap_set_ne (by rintro rfl; rw [(h.2 D hD).2] at hb; cases hb)).trans (h.2 D hD).2⟩⟩
theorem MK.cons {w A : World} {Ds : List Nat} {D : Nat} (h : MK w Ds A) (hD : A.heap[D]? = some (.deferred (some []))) (hw : w.heap.size ≤ D) (hn : D ∉ Ds) : MK w (D :: Ds) A := ⟨List.nodup_cons.2 ⟨hn, h.1⟩, fun E hE => by
  rcases List.mem_cons.1 hE with rfl | hE
  · exact ⟨hw, hD⟩
  · exact h.2 E hE⟩
theorem SameCells.set {w A : World} {b : Nat} {v : Value} (h : SameCells w A) (hb : w.heap[b]? = none) : SameCells w (A.setCell ⟨b, 0, none⟩ v) := fun k c t z hk => by
  rw [heap_set_ne (by rintro rfl; rw [hb] at hk; cases hk)]
  exact h k c t z hk
theorem cf_pairs (args : Array Value) (w : World) : (callFunc 112 args).run Tryz.prog w = .ok (.enter 112 args) w := by kernel_rfl
theorem pair_cell {w : World} {a : Option Addr} {n : Nat} {L : List (Int × Int)} (h : PairsR w a n L) {i : Nat} (hi : i < n) : ∃ b o, a = some ⟨b, o, none⟩ ∧ w.cell? ⟨b, o + i * 2, none⟩ = some (.int .i64 (L.getD i (0, 0)).1) ∧ w.cell? ⟨b, o + i * 2 + 1, none⟩ = some (.int .i64 (L.getD i (0, 0)).2) := by
  obtain ⟨b, o, ha, _, hc⟩ := h.addr (by omega)
  exact ⟨b, o, ha, hc i hi⟩
/-- The distance of a cell from a sensor is bounded. -/
theorem isq_bd (n : Int) : 0 ≤ isq n ∧ isq n ≤ 2097151 := by
  have := rt_bd n 21 0
  have e : (2 : Int) ^ 21 = 2097152 := by decide
  unfold isq; omega
theorem dOf_bd (g : Gri) (c : T3) (s : Sen) : (0 ≤ (dOf g c s).1 ∧ (dOf g c s).1 ≤ 2097152) ∧ 0 ≤ (dOf g c s).2 ∧ (dOf g c s).2 ≤ 2097152 := by
  have h1 := isq_bd (nea g c ⟨s.x, s.y, s.z⟩)
  have h2 := isq_bd (faa g c ⟨s.x, s.y, s.z⟩)
  unfold dOf dist isqUp
  simp only
  refine ⟨by omega, ?_⟩
  split <;> omega
theorem dAt_get {g : Gri} {c : T3} {l : List Sen} {i : Nat} (h : i < l.length) : (l.map (dOf g c)).getD i (0, 0) = dAt g c l i := by
  unfold dAt sAt
  simp [List.getD, h]
set_option maxHeartbeats 4000000 in
set_option maxRecDepth 100000 in
theorem answer_any (g : Gri) (A : Arr) (c : T3) (a : Option Addr) (n cap : Nat) (w : World) (hl : SenR w a n A.l) (hg : griE g = 0) (ha : (arrE A).2 = 0) (hc : celB g c = true) :
    Calls Tryz.prog 62 #[.agg #[.int .i64 g.f.x, .int .i64 g.f.y, .int .i64 g.f.z, .int .i64 g.st, .int .i64 g.c.x, .int .i64 g.c.y, .int .i64 g.c.z, .int .i64 A.lo, .int .i64 A.hi, .slice a n cap], .agg #[.int .i64 c.x, .int .i64 c.y, .int .i64 c.z]] w
      fun e' w' => e' = .returned (.int .i64 (ans g A c)) ∧ Below w.heap.size w w' := by
  obtain ⟨_, hv, hn2, hn5, hss⟩ := arrE_zero ha
  rw [hl.len] at hn2 hn5 hss
  obtain ⟨b, o, rfl, hb, hcs⟩ := hl.addr (by omega)
  have HL := Lib.hid hl
  have HCS := Lib.hid hcs
  have HSS := Lib.hid hss
  have HD := Lib.hid (fun (s : Sen) (hs : plc ⟨s.x, s.y, s.z⟩ = true) w' => distances_any g c ⟨s.x, s.y, s.z⟩ w' hg hc hs)
  have HG := Lib.hid (And.intro hg hc)
  obtain ⟨vl, vh, l⟩ := A
  simp only at HL HCS HSS hv ⊢
  have HLN := Lib.hid HL.out.len
  obtain ⟨L, hLM⟩ : ∃ L, L = l.map (dOf g c) := ⟨_, rfl⟩
  have HLM := Lib.hid (And.intro hLM (show L.length = n by rw [hLM, List.length_map]; exact HLN.out))
  clear hLM
  clear hl ha hcs hss hg hc
  refine (callsIn_wide (n := 3)).1 ?_
  refine callsIn_of_wp_marks Tryz.func62 rfl trivial ?_ rfl
  simp only [Tryz.ntmps62, List.size_toArray, List.length_cons, List.length_nil, Nat.reduceAdd, Nat.reduceSub, Array.replicate_succ, Array.replicate_zero, List.push_toArray, List.append_toArray, List.nil_append, List.cons_append]
  refine (wpIn_wide (n := 3)).2 ?_
  go_wp2_with fail
  generalize hW : World.alloc _ _ = w8
  have hb8 : Below w.heap.size w w8 := by rw [← hW]; (repeat' (first | (with_reducible exact Below.refl _ _) | (with_reducible assumption) | (with_reducible refine Below.drewN ?_ _) | (with_reducible refine Below.alloc ?_ ?_ _) | (with_reducible refine Below.drew ?_) | (with_reducible refine Below.setCell ?_ ?_ _) | (with_reducible refine Below.step (by assumption) ?_ ?_) | (with_reducible exact And.left (by assumption)) | go_size))
  have r2 : w8.heap[w.heap.size]? = some (.cells #[.int .i64 g.f.x, .int .i64 g.f.y, .int .i64 g.f.z, .int .i64 g.st, .int .i64 g.c.x, .int .i64 g.c.y, .int .i64 g.c.z, .int .i64 vl, .int .i64 vh, .slice (some ⟨b, o, none⟩) n cap] 125) := by
    rw [← hW, Below.heap_alloc _ _ _ (by first | (simp; done) | (simp; omega)), Below.heap_alloc _ _ _ (by first | (simp; done) | (simp; omega)), Below.heap_alloc _ _ _ (by first | (simp; done) | (simp; omega))]; exact heap_alloc_new _ _
  have r3 : w8.heap[w.heap.size + 1]? = some (.cells #[.int .i64 c.x, .int .i64 c.y, .int .i64 c.z] 22) := by
    rw [← hW, Below.heap_alloc _ _ _ (by first | (simp; done) | (simp; omega)), Below.heap_alloc _ _ _ (by first | (simp; done) | (simp; omega))]
    have := heap_alloc_new (w.alloc (Obj.cells #[.int .i64 g.f.x, .int .i64 g.f.y, .int .i64 g.f.z, .int .i64 g.st, .int .i64 g.c.x, .int .i64 g.c.y, .int .i64 g.c.z, .int .i64 vl, .int .i64 vh, .slice (some ⟨b, o, none⟩) n cap] 125)) (Obj.cells #[.int .i64 c.x, .int .i64 c.y, .int .i64 c.z] 22)
    simpa using this
  have r4 : w8.heap[w.heap.size + 1 + 1]? = some (.cells #[.int .i64 0] 3) := by
    rw [← hW, Below.heap_alloc _ _ _ (by simp)]
    have := heap_alloc_new ((w.alloc (Obj.cells #[.int .i64 g.f.x, .int .i64 g.f.y, .int .i64 g.f.z, .int .i64 g.st, .int .i64 g.c.x, .int .i64 g.c.y, .int .i64 g.c.z, .int .i64 vl, .int .i64 vh, .slice (some ⟨b, o, none⟩) n cap] 125)).alloc (Obj.cells #[.int .i64 c.x, .int .i64 c.y, .int .i64 c.z] 22)) (Obj.cells #[.int .i64 0] 3)
    simpa using this
  have c5 : w8.cell? ⟨w.heap.size + 1 + 1 + 1, 0, none⟩ = some (.slice none 0 0) := by { rw [← hW]; clear hW; go_simp }
  have f5 : w8.frozen? ⟨w.heap.size + 1 + 1 + 1, 0, none⟩ = false := by { rw [← hW]; clear hW; go_simp }
  have hz8 : w8.heap.size = w.heap.size + 1 + 1 + 1 + 1 := by rw [← hW]; simp
  clear hW
  obtain ⟨X2, hX2⟩ : ∃ X, X = w.heap.size := ⟨_, rfl⟩
  obtain ⟨X3, hX3⟩ : ∃ X, X = w.heap.size + 1 := ⟨_, rfl⟩
  obtain ⟨X4, hX4⟩ : ∃ X, X = w.heap.size + 1 + 1 := ⟨_, rfl⟩
  obtain ⟨X5, hX5⟩ : ∃ X, X = w.heap.size + 1 + 1 + 1 := ⟨_, rfl⟩
  rw [← hX2] at r2
  rw [← hX3] at r3
  rw [← hX4] at r4
  rw [← hX5] at c5 f5
  rw [← hX5, ← hX4, ← hX3, ← hX2]
  have hbX : b < X2 := by omega
  have x23 : X2 < X3 := by omega
  have x34 : X3 < X4 := by omega
  have x45 : X4 < X5 := by omega
  have x58 : X5 < w8.heap.size := by omega
  have xw : w.heap.size ≤ X2 := by omega
  have HB8 := Lib.hid hb8
  have HZ8 := Lib.hid (show w8.heap.size = X5 + 1 by omega)
  have HR := Lib.hid (And.intro r2 (And.intro r3 r4))
  clear hb8 hz8 hX2 hX3 hX4 hX5 r2 r3 r4
  go_loopw [20] (fun i wr => ∃ (k : Nat) (av : Option Addr) (cv : Nat), i = .int .i64 k ∧ k ≤ n ∧ wr.cell? ⟨X5, 0, none⟩ = some (.slice av k cv) ∧ wr.frozen? ⟨X5, 0, none⟩ = false ∧ Hid (wr.ownsRow (X5 + 1) 35 2 (.slice av k cv) k (pcells (L.take k))) ∧ Hid (Below X5 w8 wr) ∧ X5 < wr.heap.size) (fun i _ => n - (intOf i).toNat)
  case atStart => exact ⟨0, none, 0, rfl, Nat.zero_le _, c5, f5, Lib.hid (World.ownsRow_nil _ _ _ _), Lib.hid (Below.refl _ _), x58⟩
  case round =>
    clear c5 f5 x58
    obtain ⟨k, av, cv, rfl, hk, c5, f5, hO, hB, x5⟩ := hrel
    have i0 : (0 : Int) ≤ (k : Int) := by omega
    rcases Nat.lt_or_ge k n with hlt | hge
    · obtain ⟨⟨x, y, z, tl, th⟩, hx⟩ := ER.get HL.out hlt
      obtain ⟨q0, q1, q3, _, _⟩ := HCS.out k _ hx
      have hbw : b < wr.heap.size := by omega
      have q0 : wr.cell? ⟨b, o + k * 5, none⟩ = some (.int .i64 x) := by rw [cellB hB.out _ _ (by omega), cellB HB8.out _ _ hb]; exact q0
      have q1 : wr.cell? ⟨b, o + k * 5 + 1, none⟩ = some (.int .i64 y) := by rw [cellB hB.out _ _ (by omega), cellB HB8.out _ _ hb]; exact q1
      have q2 : wr.cell? ⟨b, o + k * 5 + 2, none⟩ = some (.int .i64 z) := by rw [cellB hB.out _ _ (by omega), cellB HB8.out _ _ hb]; exact q3
      have q3 : wr.cell? ⟨b, o + k * 5 + 3, none⟩ = some (.int .i64 tl) := by rw [cellB hB.out _ _ (by omega), cellB HB8.out _ _ hb]; exact (HCS.out k _ hx).2.2.2.1
      have q4 : wr.cell? ⟨b, o + k * 5 + 4, none⟩ = some (.int .i64 th) := by rw [cellB hB.out _ _ (by omega), cellB HB8.out _ _ hb]; exact (HCS.out k _ hx).2.2.2.2
      obtain ⟨r2, r3, r4⟩ := HR.out
      have r2 : wr.heap[X2]? = _ := (hB.out.block _ (by omega)).trans r2
      have r3 : wr.heap[X3]? = _ := (hB.out.block _ (by omega)).trans r3
      have t0 := cell_of_row _ _ 0 _ _ _ r2
      have t1 := cell_of_row _ _ 1 _ _ _ r2
      have t2 := cell_of_row _ _ 2 _ _ _ r2
      have t3 := cell_of_row _ _ 3 _ _ _ r2
      have t4 := cell_of_row _ _ 4 _ _ _ r2
      have t5 := cell_of_row _ _ 5 _ _ _ r2
      have t6 := cell_of_row _ _ 6 _ _ _ r2
      have s0 := cell_of_row _ _ 0 _ _ _ r3
      have s1 := cell_of_row _ _ 1 _ _ _ r3
      have s2 := cell_of_row _ _ 2 _ _ _ r3
      simp only [List.getElem?_toArray, List.getElem?_cons_zero, List.getElem?_cons_succ] at t0 t1 t2 t3 t4 t5 t6 s0 s1 s2
      have hS := sAt_get hx
      have hpl := (HSS.out k hlt).1
      rw [hS] at hpl
      obtain ⟨⟨d1, d2⟩, hd⟩ : ∃ p, p = dOf g c ⟨x, y, z, tl, th⟩ := ⟨_, rfl⟩
      have hdd := fun w' => HD.out ⟨x, y, z, tl, th⟩ hpl w'
      have hd1 : (dist g c ⟨x, y, z⟩).1 = d1 := by rw [show dist g c ⟨x, y, z⟩ = (d1, d2) from hd.symm]
      have hd2 : (dist g c ⟨x, y, z⟩).2 = d2 := by rw [show dist g c ⟨x, y, z⟩ = (d1, d2) from hd.symm]
      simp only [hd1, hd2] at hdd
      have HDD := Lib.hid hdd
      have HT := Lib.hid (show pcells (L.take (k + 1)) = pcells (L.take k) ++ pcells [(d1, d2)] by rw [HLM.out.1, ← List.map_take, ← List.map_take, take_map_snoc _ hx, pcells_append, hd])
      have i1 : (k : Int) < (n : Int) := by omega
      have l2 : X2 < wr.heap.size := by omega
      have l3 : X3 < wr.heap.size := by omega
      have HO := Lib.hid hO.out
      have HB := Lib.hid hB.out
      clear r2 r3 r4 hS hpl hd hdd hd1 hd2 hx hO hB
      go_wp2_with fail
      generalize hW : World.alloc _ _ = wd
      have hbd : Below wr.heap.size wr wd := by rw [← hW]; (repeat' (first | (with_reducible exact Below.refl _ _) | (with_reducible assumption) | (with_reducible refine Below.drewN ?_ _) | (with_reducible refine Below.alloc ?_ ?_ _) | (with_reducible refine Below.drew ?_) | (with_reducible refine Below.setCell ?_ ?_ _) | (with_reducible refine Below.step (by assumption) ?_ ?_) | (with_reducible exact And.left (by assumption)) | go_size))
      have y0 : wd.cell? ⟨wr.heap.size, 0, none⟩ = some (.int .i64 x) := by { rw [← hW]; clear hW; go_simp }
      have y1 : wd.cell? ⟨wr.heap.size, 1, none⟩ = some (.int .i64 y) := by { rw [← hW]; clear hW; go_simp }
      have y2 : wd.cell? ⟨wr.heap.size, 2, none⟩ = some (.int .i64 z) := by { rw [← hW]; clear hW; go_simp }
      have ly : wr.heap.size < wd.heap.size := by { rw [← hW]; clear hW; simp }
      clear hW
      have t0d : wd.cell? ⟨X2, 0, none⟩ = some (.int .i64 g.f.x) := by { rw [cellB hbd _ _ (by first | (simp; done) | (simp; omega) | omega)]; all_goals (first | assumption | go_simp) }; have t1d : wd.cell? ⟨X2, 1, none⟩ = some (.int .i64 g.f.y) := by { rw [cellB hbd _ _ (by first | (simp; done) | (simp; omega) | omega)]; all_goals (first | assumption | go_simp) }; have t2d : wd.cell? ⟨X2, 2, none⟩ = some (.int .i64 g.f.z) := by { rw [cellB hbd _ _ (by first | (simp; done) | (simp; omega) | omega)]; all_goals (first | assumption | go_simp) }; have t3d : wd.cell? ⟨X2, 3, none⟩ = some (.int .i64 g.st) := by { rw [cellB hbd _ _ (by first | (simp; done) | (simp; omega) | omega)]; all_goals (first | assumption | go_simp) }; have t4d : wd.cell? ⟨X2, 4, none⟩ = some (.int .i64 g.c.x) := by { rw [cellB hbd _ _ (by first | (simp; done) | (simp; omega) | omega)]; all_goals (first | assumption | go_simp) }; have t5d : wd.cell? ⟨X2, 5, none⟩ = some (.int .i64 g.c.y) := by { rw [cellB hbd _ _ (by first | (simp; done) | (simp; omega) | omega)]; all_goals (first | assumption | go_simp) }; have t6d : wd.cell? ⟨X2, 6, none⟩ = some (.int .i64 g.c.z) := by { rw [cellB hbd _ _ (by first | (simp; done) | (simp; omega) | omega)]; all_goals (first | assumption | go_simp) }; have s0d : wd.cell? ⟨X3, 0, none⟩ = some (.int .i64 c.x) := by { rw [cellB hbd _ _ (by first | (simp; done) | (simp; omega) | omega)]; all_goals (first | assumption | go_simp) }; have s1d : wd.cell? ⟨X3, 1, none⟩ = some (.int .i64 c.y) := by { rw [cellB hbd _ _ (by first | (simp; done) | (simp; omega) | omega)]; all_goals (first | assumption | go_simp) }; have s2d : wd.cell? ⟨X3, 2, none⟩ = some (.int .i64 c.z) := by { rw [cellB hbd _ _ (by first | (simp; done) | (simp; omega) | omega)]; all_goals (first | assumption | go_simp) }; have c5d : wd.cell? ⟨X5, 0, none⟩ = some (.slice av k cv) := by { rw [cellB hbd _ _ (by first | (simp; done) | (simp; omega) | omega)]; all_goals (first | assumption | go_simp) }; have f5d : wd.frozen? ⟨X5, 0, none⟩ = false := by { rw [frozenB hbd _ _ (by first | (simp; done) | (simp; omega) | omega)]; all_goals (first | assumption | go_simp) }; have l2d : X2 < wd.heap.size := by { omega }; have l3d : X3 < wd.heap.size := by { omega }; have x5d : X5 < wd.heap.size := by { omega }
      have HO := Lib.hid (owns_below HO.out hbd (fun q hq => (HO.out.lt q hq).2))
      have HB := Lib.hid (HB.out.trans (hbd.mono (by omega)))
      clear hbd t0 t1 t2 t3 t4 t5 t6 s0 s1 s2 c5 f5 l2 l3 q0 q1 q2 q3 q4
      refine wp_region_laterY (B := wd.heap.size) [0, 1, 2, 3, 4, 5] [6, 7] [8, 9] (by kernel_rfl) (by kernel_rfl) ?_; simp only [List.filterMap_cons, List.filterMap_nil, List.getElem?_cons_zero, List.getElem?_cons_succ]; repeat (show wpQuiet _ _ _ _ (_ :: _) _; go_big_quiet_step (fail))
      refine wpQuiet_nil ?_
      refine tailY_cons ?_
      go_wp2_with fail
      refine (HDD.out _).mono ?_
      rintro e9 w9 ⟨rfl, hb9⟩
      have hb9 : Below wd.heap.size wd w9 := (Below.refl wd.heap.size wd).drew.trans hb9
      go_wp2_with fail
      refine tailL_mk hb9 ?_
      refine tailY_cons ?_
      go_wp2_with fail
      refine tailL_mk (Below.alloc hb9 hb9.size _) ?_
      refine tailY_ends ?_
      have HO9 := Lib.hid ((owns_below HO.out hb9 (fun q hq => (HO.out.lt q hq).2)).alloc (Obj.cells #[.int .i64 d1, .int .i64 d2] 35))
      have hb9' : Below wd.heap.size wd (w9.alloc (Obj.cells #[.int .i64 d1, .int .i64 d2] 35)) := Below.alloc hb9 hb9.size _
      have hsl : SlR (w9.alloc (Obj.cells #[.int .i64 d1, .int .i64 d2] 35)) (some ⟨w9.heap.size, 0, none⟩) 1 2 (pcells [(d1, d2)]) := SlR.lit w9 _ [.int .i64 d1, .int .i64 d2] _ _ 1 2 rfl rfl rfl (by omega)
      have HSL := Lib.hid hsl
      generalize w9.alloc (Obj.cells #[.int .i64 d1, .int .i64 d2] 35) = wa at *
      have HB := Lib.hid (HB.out.trans (hb9'.mono (by omega)))
      have hz9 := hb9'.size
      have c5 : wa.cell? ⟨X5, 0, none⟩ = some (.slice av k cv) := by { rw [cellB hb9' _ _ (by first | (simp; done) | (simp; omega) | omega)]; all_goals (first | assumption | go_simp) }; have f5 : wa.frozen? ⟨X5, 0, none⟩ = false := by { rw [frozenB hb9' _ _ (by first | (simp; done) | (simp; omega) | omega)]; all_goals (first | assumption | go_simp) }; have x5 : X5 < wa.heap.size := by { omega }
      clear hb9 hb9' hsl c5d f5d x5d
      refine ends_cons ?_
      go_wp2_with (at_builtin; refine wpList_append_sl _ rfl _ _ 180 rfl (X5 + 1) 35 _ 2 16 Tryz.underlying180 infoRange rfl (by omega) _ _ _ rfl HO9.out _ 1 1 (pcells [(d1, d2)]) rfl HSL.out (by intro u hu; simp [pcells] at hu; rcases hu with rfl | rfl <;> rfl) (by omega) (by omega) (by omega) ?_)
      intro v2 w2 hown2 hgr2 hb2
      obtain ⟨av2, cv2, rfl, _, _⟩ := owns_slice hown2
      rw [← HT.out] at hown2
      have HO2 := Lib.hid hown2
      have hz2 := hb2.size
      have c5d : w2.cell? ⟨X5, 0, none⟩ = some (.slice av k cv) := by { rw [cellB hb2 _ _ (by first | (simp; done) | (simp; omega) | omega)]; all_goals (first | assumption | go_simp) }; have f5d : w2.frozen? ⟨X5, 0, none⟩ = false := by { rw [frozenB hb2 _ _ (by first | (simp; done) | (simp; omega) | omega)]; all_goals (first | assumption | go_simp) }; have x5d : X5 < w2.heap.size := by { omega }
      have HB := Lib.hid (HB.out.trans (hb2.mono (by omega)))
      clear hown2 hgr2 hb2 c5 f5 x5 HT HO HO9 HSL
      refine tailZ_end ?_
      refine ends_cons ?_
      go_wp2_with fail
      refine tailZ_end ?_
      refine ends_nil ?_
      go_wp2
      go_roundw
      case rel => exact ⟨k + 1, av2, cv2, by go_num, by omega, by go_simp, by go_simp, Lib.hid (ownsRow_setCell_below (a := ⟨X5, 0, none⟩) HO2.out (show X5 < X5 + 1 by omega) _), Lib.hid (by have := HB.out; (repeat' (first | (with_reducible exact Below.refl _ _) | (with_reducible assumption) | (with_reducible refine Below.drewN ?_ _) | (with_reducible refine Below.alloc ?_ ?_ _) | (with_reducible refine Below.drew ?_) | (with_reducible refine Below.setCell ?_ ?_ _) | (with_reducible refine Below.step (by assumption) ?_ ?_) | (with_reducible exact And.left (by assumption)) | go_size))), by simp; omega⟩
      case measure => simp [intOf]; omega
    · obtain rfl : n = k := by omega
      have HP := Lib.hid (show PairsR wr av n L from by have h := SlR.of_owns hO.out; rw [List.take_of_length_le (by have := HLM.out.2; omega)] at h; exact h)
      obtain ⟨r2, r3, r4⟩ := HR.out
      have r2 : wr.heap[X2]? = _ := (hB.out.block _ (by omega)).trans r2
      have r4 : wr.heap[X4]? = _ := (hB.out.block _ (by omega)).trans r4
      have t0 := cell_of_row _ _ 0 _ _ _ r2
      have t1 := cell_of_row _ _ 1 _ _ _ r2
      have t2 := cell_of_row _ _ 2 _ _ _ r2
      have t3 := cell_of_row _ _ 3 _ _ _ r2
      have t4 := cell_of_row _ _ 4 _ _ _ r2
      have t5 := cell_of_row _ _ 5 _ _ _ r2
      have t6 := cell_of_row _ _ 6 _ _ _ r2
      have t7 := cell_of_row _ _ 7 _ _ _ r2
      have t8 := cell_of_row _ _ 8 _ _ _ r2
      have t9 := cell_of_row _ _ 9 _ _ _ r2
      simp only [List.getElem?_toArray, List.getElem?_cons_zero, List.getElem?_cons_succ] at t0 t1 t2 t3 t4 t5 t6 t7 t8 t9
      have HBr := Lib.hid (HB8.out.trans (hB.out.mono (show w.heap.size ≤ X5 by omega)))
      have HLr := Lib.hid (HL.out.below HBr.out)
      clear hO hB
      have l2 : X2 < wr.heap.size := by omega
      go_wp2_with fail
      generalize hW : World.alloc _ _ = wa
      have hba : Below wr.heap.size wr wa := by rw [← hW]; (repeat' (first | (with_reducible exact Below.refl _ _) | (with_reducible assumption) | (with_reducible refine Below.drewN ?_ _) | (with_reducible refine Below.alloc ?_ ?_ _) | (with_reducible refine Below.drew ?_) | (with_reducible refine Below.setCell ?_ ?_ _) | (with_reducible refine Below.step (by assumption) ?_ ?_) | (with_reducible exact And.left (by assumption)) | go_size))
      have k8 : wa.heap[wr.heap.size]? = some (.cells #[.int .i64 vl, .int .i64 vh] 181) := by rw [← hW]; exact heap_alloc_new _ _
      have k2 := (hba.block _ (by omega)).trans r2
      have k4 := (hba.block _ (by omega)).trans r4
      have k5 : wa.cell? ⟨X5, 0, none⟩ = some (.slice av n cv) := by rw [cellB hba _ _ x5]; exact c5
      have HPa := Lib.hid (HP.out.below hba)
      have HBa := Lib.hid (HBr.out.trans (hba.mono (by omega)))
      have HLa := Lib.hid (HLr.out.below hba)
      have hza := hba.size
      obtain ⟨X8, hX8⟩ : ∃ X, X = wr.heap.size := ⟨_, rfl⟩
      rw [← hX8] at k8 hza
      rw [← hX8]
      have x58 : X5 < X8 := by omega
      have x8 : X8 < wa.heap.size := (Array.getElem?_eq_some_iff.1 k8).1
      clear hW hba r2 r4 t0 t1 t2 t3 t4 t5 t6 t7 t8 t9 HP HBr HLr hX8 c5 f5 x5 HR HB8 HZ8
      refine (wpIn_wide (n := 3)).1 ?_
      refine range_two (gf := 112) (fst := #[.agg #[.int .i64 g.f.x, .int .i64 g.f.y, .int .i64 g.f.z, .int .i64 g.st, .int .i64 g.c.x, .int .i64 g.c.y, .int .i64 g.c.z, .int .i64 vl, .int .i64 vh, .slice (some ⟨b, o, none⟩) n cap]]) (lst := #[]) rfl cf_pairs ?_
      intro rec hst hpe hpa htm has hbo
      obtain ⟨RD, hRD⟩ : ∃ RD : Loop, RD = { rec with state := .done, pending := some .ret } := ⟨_, rfl⟩
      have HRD := Lib.hid hRD
      clear hRD
      have hL1 : ((wa.alloc (.deferred (some []))).alloc (.loop rec)).heap[wa.heap.size + 1]? = some (.loop rec) := by
        have := World.alloc_heap_new (wa.alloc (.deferred (some []))) (.loop rec); rwa [World.size_alloc] at this
      have hK1 : ((wa.alloc (.deferred (some []))).alloc (.loop rec)).heap[wa.heap.size]? = some (.deferred (some [])) := (Below.heap_alloc _ _ _ (by simp)).trans (World.alloc_heap_new wa _)
      have hb9 : Below wa.heap.size wa ((wa.alloc (.deferred (some []))).alloc (.loop rec)) := by (repeat' (first | (with_reducible exact Below.refl _ _) | (with_reducible assumption) | (with_reducible refine Below.drewN ?_ _) | (with_reducible refine Below.alloc ?_ ?_ _) | (with_reducible refine Below.drew ?_) | (with_reducible refine Below.setCell ?_ ?_ _) | (with_reducible refine Below.step (by assumption) ?_ ?_) | (with_reducible exact And.left (by assumption)) | go_size))
      generalize (wa.alloc (.deferred (some []))).alloc (.loop rec) = w9 at *
      obtain ⟨lr, hlr⟩ : ∃ lr, lr = wa.heap.size + 1 := ⟨_, rfl⟩
      obtain ⟨D, hD⟩ : ∃ D, D = wa.heap.size := ⟨_, rfl⟩
      rw [← hlr] at hL1
      rw [← hD] at hK1
      simp only [← hlr]
      simp only [← hD]
      have x8D : X8 < D := by omega
      have dl : D < lr := by omega
      have HDL := Lib.hid (And.intro hlr hD)
      have hI9 : RInv lr D rec w wa w9 := ⟨hL1, hK1, (SameCells.refl wa).below hb9, hb9.size, HBa.out.trans (hb9.mono HBa.out.size)⟩
      have h4D : w.heap.size ≤ D := by have := HBa.out.size; omega
      clear hL1 hK1 hb9 hlr hD
      show CallsIn Fence.wide _ _ _ #[.agg #[.int .i64 g.f.x, .int .i64 g.f.y, .int .i64 g.f.z, .int .i64 g.st, .int .i64 g.c.x, .int .i64 g.c.y, .int .i64 g.c.z, .int .i64 vl, .int .i64 vh, .slice (some ⟨b, o, none⟩) n cap], .func (.yield lr) #[] #[]] _ _
      refine (callsIn_wide.2 (pairs_calls _ _ _ _ _ _ _ _ _ (some ⟨b, o, none⟩) n cap lr
        (fun t W => RInv lr D rec w wa W ∧ ∀ i j, i < n → j < n → i ≠ j → i * n + j < t → excl g ⟨vl, vh, l⟩ c i j = false)
        (fun W => W.heap[lr]? = some (.loop RD) ∧ W.heap[D]? = some (.deferred (some [])) ∧ W.heap[X4]? = some (.cells #[.int .i64 0] 3) ∧ Below w.heap.size w W ∧ ans g ⟨vl, vh, l⟩ c = 0) w9 (by omega) ?_ ?_ ?_ ⟨hI9, fun _ _ _ _ _ h => absurd h (by omega)⟩)).mono ?_
      · rintro k A B ⟨h1, h2⟩ hb
        exact ⟨h1.below hb, h2⟩
      · rintro i A hi ⟨h1, h2⟩
        refine ⟨h1, fun i' j' hi' hj' hne hlt => h2 i' j' hi' hj' hne ?_⟩
        by_cases he : i' * n + j' = i * n + i
        · exact absurd ((grid_ne hi hj' he).1.trans (grid_ne hi hj' he).2.symm) hne
        · omega
      · rintro i j A hi hj hij ⟨h1, h2⟩
        refine yield_two h1.1 hst hpe (by rw [hpa]; rfl) ?_
        obtain ⟨RB, hRB⟩ : ∃ RB : Loop, RB = { rec with state := .busy } := ⟨_, rfl⟩
        rw [← hRB]
        have HRB := Lib.hid hRB
        clear hRB
        rw [has, hbo, hpa, htm]
        clear has hbo hpa htm hst hpe
        have HJ := Lib.hid (And.intro h1 h2)
        have hjl := h1.1
        clear h1 h2
        gi_wp2
        refine ⟨hjl, ?_⟩
        have hI := HJ.out.1
        have hB1 : SameCells wa (A.putObj lr (.loop RB)) := hI.2.2.1.put hjl
        have hB2 : wa.heap.size ≤ (A.putObj lr (.loop RB)).heap.size := by rw [World.putObj_size]; exact hI.2.2.2.1
        have hB3 : Below w.heap.size w (A.putObj lr (.loop RB)) := hI.2.2.2.2.trans (belowK_b (w := w) (Nat.le_refl _) A lr _ _ (by omega) hjl rfl rfl)
        have hB4 : (A.putObj lr (.loop RB)).heap[lr]? = some (.loop RB) := World.putObj_heap_same (Array.getElem?_eq_some_iff.1 hjl).1
        have hB5 : (A.putObj lr (.loop RB)).heap[D]? = some (.deferred (some [])) := (World.putObj_heap_other (by omega)).trans hI.2.1
        have hB6 : SameCells A (A.putObj lr (.loop RB)) := (SameCells.refl A).put hjl
        generalize A.putObj lr (.loop RB) = A1 at *
        clear hI hjl
        have kx := hB1 _ _ _ _ k2
        have k8' := hB1 _ _ _ _ k8
        have k5' := hB1.cell k5
        have hPA : PairsR A1 av n L := HPa.out.same hB1 hB2
        obtain ⟨bL, oL, rfl, u1, u2⟩ := pair_cell hPA hi
        obtain ⟨bL', oL', he, u3, u4⟩ := pair_cell hPA hj
        obtain ⟨rfl, rfl⟩ : bL = bL' ∧ oL = oL' := by simpa using he
        have HLA := Lib.hid (fun (W : World) (hW : Below A1.heap.size A1 W) => late_any (.int .i64 g.f.x) (.int .i64 g.f.y) (.int .i64 g.f.z) (.int .i64 g.st) (.int .i64 g.c.x) (.int .i64 g.c.y) (.int .i64 g.c.z) (.int .i64 vl) (.int .i64 vh) l (some ⟨b, o, none⟩) n cap i j W ((HLa.out.same hB1 hB2).below hW) hi hj (fun k hk => by have := HSS.out k hk; omega))
        have t0 := cell_of_row _ _ 0 _ _ _ kx
        have t1 := cell_of_row _ _ 1 _ _ _ kx
        have t2 := cell_of_row _ _ 2 _ _ _ kx
        have t3 := cell_of_row _ _ 3 _ _ _ kx
        have t4 := cell_of_row _ _ 4 _ _ _ kx
        have t5 := cell_of_row _ _ 5 _ _ _ kx
        have t6 := cell_of_row _ _ 6 _ _ _ kx
        have t7 := cell_of_row _ _ 7 _ _ _ kx
        have t8 := cell_of_row _ _ 8 _ _ _ kx
        have t9 := cell_of_row _ _ 9 _ _ _ kx
        have z0 := cell_of_row _ _ 0 _ _ _ k8'
        have z1 := cell_of_row _ _ 1 _ _ _ k8'
        simp only [List.getElem?_toArray, List.getElem?_cons_zero, List.getElem?_cons_succ] at t0 t1 t2 t3 t4 t5 t6 t7 t8 t9 z0 z1
        obtain ⟨⟨a1, a2⟩, hA1⟩ : ∃ p, p = L.getD i (0, 0) := ⟨_, rfl⟩
        obtain ⟨⟨b1, b2⟩, hA2⟩ : ∃ p, p = L.getD j (0, 0) := ⟨_, rfl⟩
        rw [← hA1] at u1 u2
        rw [← hA2] at u3 u4
        obtain ⟨T, hT⟩ : ∃ T, T = lat l i j := ⟨_, rfl⟩
        rw [← hT] at HLA
        have hex : excl g ⟨vl, vh, l⟩ c i j = decide (b1 - a2 > max (vl * T) (vh * T)) := by
          unfold excl
          rw [← dAt_get (g := g) (c := c) (show j < l.length by rw [HLN.out]; exact hj), ← dAt_get (g := g) (c := c) (show i < l.length by rw [HLN.out]; exact hi), ← HLM.out.1, ← hA1, ← hA2, hT]
        have ba : (0 ≤ b1 ∧ b1 ≤ 2097152) ∧ (0 ≤ a2 ∧ a2 ≤ 2097152) := by
          have h1 : (a1, a2) = dOf g c (sAt l i) := by rw [hA1, HLM.out.1, dAt_get (by rw [HLN.out]; exact hi)]; rfl
          have h2 : (b1, b2) = dOf g c (sAt l j) := by rw [hA2, HLM.out.1, dAt_get (by rw [HLN.out]; exact hj)]; rfl
          have h3 := dOf_bd g c (sAt l i)
          have h4 := dOf_bd g c (sAt l j)
          rw [← h1] at h3
          rw [← h2] at h4
          exact ⟨h4.1, h3.2⟩
        have bt : -1000000 ≤ T ∧ T ≤ 1000000 := by
          have h1 := HSS.out i hi
          have h2 := HSS.out j hj
          rw [hT]; unfold lat; omega
        have m1 := mulb (a := vl) (b := T) 10000 1000000 10000000000 (by omega) (by omega) bt.1 bt.2 (by omega)
        have m2 := mulb (a := vh) (b := T) 10000 1000000 10000000000 (by omega) (by omega) bt.1 bt.2 (by omega)
        have w1 : IntKind.i64.wrap (b1 - a2) = b1 - a2 := by rw [IntKind.wrap_i64]; omega
        have w2 : IntKind.i64.wrap (vl * T) = vl * T := by rw [IntKind.wrap_i64]; omega
        have w3 : IntKind.i64.wrap (vh * T) = vh * T := by rw [IntKind.wrap_i64]; omega
        have i0 : (0 : Int) ≤ (i : Int) := by omega
        have i1 : (i : Int) < (n : Int) := by omega
        have j0 : (0 : Int) ≤ (j : Int) := by omega
        have j1 : (j : Int) < (n : Int) := by omega
        have HEX := Lib.hid hex
        have HBS := Lib.hid (And.intro hB1 (And.intro hB2 (And.intro hB3 (And.intro hB4 (And.intro hB5 hB6)))))
        clear hex hT hA1 hA2 hPA he hB1 hB2 hB3 hB4 hB5 hB6
        gi_wp2
        refine round_later_all (by kernel_rfl) rfl (by repeat (first | exact not_out_two | refine not_out_then ?_ | refine not_out_block ?_)) (by kernel_rfl) ?_; repeat go_big_quiet_step (first | (with_reducible exact calls_later (HLA.out _ (Later.below _))))
        refine wpQuiet_nil ?_; intro w7 hb7
        obtain ⟨hB1, hB2, hB3, hB4, hB5, hB6⟩ := HBS.out
        have e4 : w7.heap[X4]? = some (.cells #[.int .i64 0] 3) := (hb7.block _ (by omega)).trans (hB1 _ _ _ _ k4)
        have c4 := cell_of_row _ _ 0 _ _ _ e4
        have f4 := frozen_of_row _ _ 0 _ _ e4
        simp only [List.getElem?_toArray, List.getElem?_cons_zero] at c4
        have HB7 := Lib.hid hb7
        clear hB1 hB2 hB3 hB4 hB5 hB6 hb7 w1 w2 w3
        gi_wp2
        iterate 2
          next =>
            have hb7 := HB7.out
            obtain ⟨hB1, hB2, hB3, hB4, hB5, hB6⟩ := HBS.out
            have g4 : w7.heap[lr]? = some (.loop RB) := (hb7.block _ (Array.getElem?_eq_some_iff.1 hB4).1).trans hB4
            have g5 : w7.heap[D]? = some (.deferred (some [])) := (hb7.block _ (Array.getElem?_eq_some_iff.1 hB5).1).trans hB5
            have hx4 : w.heap.size ≤ X4 := by omega
            have n4l : lr ≠ X4 := by omega
            have n4D : D ≠ X4 := by omega
            have nlD : D ≠ lr := by omega
            have g4' := (heap_set_ne (v := Value.int .i64 0) n4l).trans g4
            have g5' := (heap_set_ne (v := Value.int .i64 0) n4D).trans g5
            have hbW : Below w.heap.size w (w7.setCell ⟨X4, 0, none⟩ (.int .i64 0)) := (hB3.trans (hb7.mono hB3.size)).setCell hx4 _
            refine ⟨by rw [← HRB.out]; exact g4', .inr ⟨rfl, by rw [← HRD.out]; exact World.putObj_heap_same (Array.getElem?_eq_some_iff.1 g4').1, (World.putObj_heap_other nlD).trans g5', (World.putObj_heap_other n4l.symm).trans (cells_set e4), hbW.trans (belowK_b (w := w) (Nat.le_refl _) _ lr _ _ (by omega) g4' rfl rfl), ?_⟩⟩
            exact ans_zero (i := i) (j := j) (by have := HLN.out; simp only; omega) (by have := HLN.out; simp only; omega) hij (by rw [HEX.out, decide_eq_true_eq]; omega)
        all_goals
          have hb7 := HB7.out
          obtain ⟨hB1, hB2, hB3, hB4, hB5, hB6⟩ := HBS.out
          have g4 : w7.heap[lr]? = some (.loop RB) := (hb7.block _ (Array.getElem?_eq_some_iff.1 hB4).1).trans hB4
          have g5 : w7.heap[D]? = some (.deferred (some [])) := (hb7.block _ (Array.getElem?_eq_some_iff.1 hB5).1).trans hB5
          refine ⟨by rw [← HRB.out]; exact g4, .inl ⟨rfl, ⟨RInv.ready (A1 := A1) (hB1.below hb7) (Nat.le_trans hB2 hb7.size) (hB3.trans (hb7.mono hB3.size)) g4 g5 (by omega), fun i' j' hi' hj' hne hlt => ?_⟩, fun k cc tt zz _ hk => ((hB6.below hb7).put g4) _ _ _ _ hk⟩⟩
          by_cases he : i' * n + j' = i * n + j
          · obtain ⟨rfl, rfl⟩ := grid_ne hj hj' he
            rw [HEX.out, decide_eq_false_iff_not]; omega
          · exact HJ.out.2 i' j' hi' hj' hne (by omega)
      · rintro e W ⟨⟨v, rfl⟩, (⟨hI, hall⟩ | ⟨h1, h2, h3, h4, h5⟩)⟩
        · refine ⟨⟨_, rfl⟩, .inl ⟨hI.1, ?_⟩⟩
          have hS := hI.2.2.1.put (r' := { rec with state := .exhausted }) hI.1
          have hZ : wa.heap.size ≤ (W.putObj lr (.loop { rec with state := .exhausted })).heap.size := by rw [World.putObj_size]; exact hI.2.2.2.1
          have hBw : Below w.heap.size w (W.putObj lr (.loop { rec with state := .exhausted })) := hI.2.2.2.2.trans (belowK_b (w := w) (Nat.le_refl _) W lr _ _ (by omega) hI.1 rfl rfl)
          have hM : MK w [D] (W.putObj lr (.loop { rec with state := .exhausted })) := MK.put (r := rec) ⟨by simp, fun E hE => by simp at hE; subst hE; exact ⟨h4D, hI.2.1⟩⟩ hI.1
          generalize W.putObj lr (.loop { rec with state := .exhausted }) = W2 at *
          have HALL := Lib.hid (show allP l.length (fun i j => !excl g ⟨vl, vh, l⟩ c i j) = true from allP_iff.2 (fun i j hi hj hne => by
            rw [HLN.out] at hi hj
            rw [hall i j hi hj hne (by have := Nat.mul_le_mul_right n (show i + 1 ≤ n by omega); rw [Nat.succ_mul] at this; omega)]; rfl))
          have k8' := hS _ _ _ _ k8
          have z0 := cell_of_row _ _ 0 _ _ _ k8'
          have z1 := cell_of_row _ _ 1 _ _ _ k8'
          simp only [List.getElem?_toArray, List.getElem?_cons_zero, List.getElem?_cons_succ] at z0 z1
          have l8 : X8 < W2.heap.size := by omega
          have hst0 := hst
          clear hI hall hst hpe hpa htm has hbo HRD HDL
          go_wp2_with fail
          clear z0 z1 k8'
          refine wp_loop_rounds 3 ?_
          rw [rounds_succ]
          have kx := hS _ _ _ _ k2
          have t0 := cell_of_row _ _ 0 _ _ _ kx
          have t1 := cell_of_row _ _ 1 _ _ _ kx
          have t2 := cell_of_row _ _ 2 _ _ _ kx
          have t3 := cell_of_row _ _ 3 _ _ _ kx
          have t4 := cell_of_row _ _ 4 _ _ _ kx
          have t5 := cell_of_row _ _ 5 _ _ _ kx
          have t6 := cell_of_row _ _ 6 _ _ _ kx
          have t7 := cell_of_row _ _ 7 _ _ _ kx
          have t8 := cell_of_row _ _ 8 _ _ _ kx
          have t9 := cell_of_row _ _ 9 _ _ _ kx
          simp only [List.getElem?_toArray, List.getElem?_cons_zero, List.getElem?_cons_succ] at t0 t1 t2 t3 t4 t5 t6 t7 t8 t9
          have l2 : X2 < W2.heap.size := by omega
          go_wp2_with fail
          generalize hW : World.alloc (World.alloc W2 _) _ = wb
          have hbb : Below W2.heap.size W2 wb := by rw [← hW]; (repeat' (first | (with_reducible exact Below.refl _ _) | (with_reducible assumption) | (with_reducible refine Below.drewN ?_ _) | (with_reducible refine Below.alloc ?_ ?_ _) | (with_reducible refine Below.drew ?_) | (with_reducible refine Below.setCell ?_ ?_ _) | (with_reducible refine Below.step (by assumption) ?_ ?_) | (with_reducible exact And.left (by assumption)) | go_size))
          have k13 : wb.heap[W2.heap.size + 1]? = some (.cells #[.bool true] 4) := by
            rw [← hW]
            have := heap_alloc_new (W2.alloc (Obj.cells #[.int .i64 vl] 3)) (Obj.cells #[.bool true] 4)
            simpa using this
          have k12 : wb.heap[W2.heap.size]? = some (.cells #[.int .i64 vl] 3) := by
            rw [← hW, Below.heap_alloc _ _ _ (by simp)]; exact heap_alloc_new _ _
          have hzb : wb.heap.size = W2.heap.size + 1 + 1 := by rw [← hW]; simp
          obtain ⟨X12, hX12⟩ : ∃ X, X = W2.heap.size := ⟨_, rfl⟩
          obtain ⟨X13, hX13⟩ : ∃ X, X = W2.heap.size + 1 := ⟨_, rfl⟩
          rw [← hX12] at k12
          rw [← hX13] at k13
          rw [← hX13, ← hX12]
          have hS := hS.below hbb
          have hZ : wa.heap.size ≤ wb.heap.size := by omega
          have hM := hM.below hbb
          have hBw := hBw.trans (hbb.mono hBw.size)
          have n13 : wa.heap[X13]? = none := Array.getElem?_eq_none (by omega)
          have nX : X13 ≠ X12 := by omega
          have xz : wa.heap.size ≤ X12 := by omega
          have x1213 : X12 < X13 := by omega
          have xzb : X13 < wb.heap.size := by omega
          clear hW hbb t0 t1 t2 t3 t4 t5 t6 t7 t8 t9 kx hX12 hX13
          refine (wpIn_wide (n := 3)).1 ?_
          refine range_two (gf := 112) (fst := #[.agg #[.int .i64 g.f.x, .int .i64 g.f.y, .int .i64 g.f.z, .int .i64 g.st, .int .i64 g.c.x, .int .i64 g.c.y, .int .i64 g.c.z, .int .i64 vl, .int .i64 vh, .slice (some ⟨b, o, none⟩) n cap]]) (lst := #[]) rfl cf_pairs ?_
          intro rec2 hst hpe hpa htm has hbo
          have hL1 : ((wb.alloc (.deferred (some []))).alloc (.loop rec2)).heap[wb.heap.size + 1]? = some (.loop rec2) := by
            have := World.alloc_heap_new (wb.alloc (.deferred (some []))) (.loop rec2); rwa [World.size_alloc] at this
          have hK1 : ((wb.alloc (.deferred (some []))).alloc (.loop rec2)).heap[wb.heap.size]? = some (.deferred (some [])) := (Below.heap_alloc _ _ _ (by simp)).trans (World.alloc_heap_new wb _)
          have hb9 : Below wb.heap.size wb ((wb.alloc (.deferred (some []))).alloc (.loop rec2)) := by (repeat' (first | (with_reducible exact Below.refl _ _) | (with_reducible assumption) | (with_reducible refine Below.drewN ?_ _) | (with_reducible refine Below.alloc ?_ ?_ _) | (with_reducible refine Below.drew ?_) | (with_reducible refine Below.setCell ?_ ?_ _) | (with_reducible refine Below.step (by assumption) ?_ ?_) | (with_reducible exact And.left (by assumption)) | go_size))
          generalize (wb.alloc (.deferred (some []))).alloc (.loop rec2) = w9 at *
          obtain ⟨lr2, hlr⟩ : ∃ lr2, lr2 = wb.heap.size + 1 := ⟨_, rfl⟩
          obtain ⟨D2, hD⟩ : ∃ D2, D2 = wb.heap.size := ⟨_, rfl⟩
          rw [← hlr] at hL1
          rw [← hD] at hK1
          simp only [← hlr]
          simp only [← hD]
          have x13D : X13 < D2 := by omega
          have dl : D2 < lr2 := by omega
          have hwD : w.heap.size ≤ D2 := by have := hBw.size; omega
          have hnD : D2 ∉ [D] := fun h => by have := (Array.getElem?_eq_some_iff.1 (hM.2 D2 h).2).1; omega
          have hI9 : RInv lr2 D2 rec2 w wa w9 := ⟨hL1, hK1, hS.below hb9, Nat.le_trans hZ hb9.size, hBw.trans (hb9.mono hBw.size)⟩
          have h13 := (hb9.block _ (Array.getElem?_eq_some_iff.1 k13).1).trans k13
          have h12 := (hb9.block _ (Array.getElem?_eq_some_iff.1 k12).1).trans k12
          have hM9 := hM.below hb9
          have x9 : X13 < w9.heap.size := (Array.getElem?_eq_some_iff.1 h13).1
          clear hL1 hK1 hb9 hlr hD hS hZ hBw hM k12 k13 hzb xzb
          show CallsIn Fence.wide _ _ _ #[.agg #[.int .i64 g.f.x, .int .i64 g.f.y, .int .i64 g.f.z, .int .i64 g.st, .int .i64 g.c.x, .int .i64 g.c.y, .int .i64 g.c.z, .int .i64 vl, .int .i64 vh, .slice (some ⟨b, o, none⟩) n cap], .func (.yield lr2) #[] #[]] _ _
          refine (callsIn_wide.2 (pairs_calls _ _ _ _ _ _ _ _ _ (some ⟨b, o, none⟩) n cap lr2
            (fun t W => RInv lr2 D2 rec2 w wa W ∧ MK w [D] W ∧ W.heap[X12]? = some (.cells #[.int .i64 vl] 3) ∧ ∃ bb : Bool, W.heap[X13]? = some (.cells #[.bool bb] 4) ∧ (bb = true ↔ ∀ i j, i < n → j < n → i ≠ j → i * n + j < t → keep g ⟨vl, vh, l⟩ c vl i j = true))
            (fun _ => False) w9 (by omega) ?_ ?_ ?_ ⟨hI9, hM9, h12, true, h13, ⟨fun _ i j _ _ _ h => absurd h (by omega), fun _ => rfl⟩⟩)).mono ?_
          · rintro k A B ⟨h1, h2, h3, bb, h4, h5⟩ hb
            exact ⟨h1.below hb, h2.below hb, (hb.block _ (Array.getElem?_eq_some_iff.1 h3).1).trans h3, bb, (hb.block _ (Array.getElem?_eq_some_iff.1 h4).1).trans h4, h5⟩
          · rintro i A hi ⟨h1, h2, h3, bb, h4, h5⟩
            refine ⟨h1, h2, h3, bb, h4, h5.trans ⟨fun h i' j' hi' hj' hne hlt => h i' j' hi' hj' hne ?_, fun h i' j' hi' hj' hne hlt => h i' j' hi' hj' hne (by omega)⟩⟩
            by_cases he : i' * n + j' = i * n + i
            · exact absurd ((grid_ne hi hj' he).1.trans (grid_ne hi hj' he).2.symm) hne
            · omega
          · rintro i j A hi hj hij ⟨h1, h2, h3, bb, h4, h5⟩
            refine yield_two h1.1 hst hpe (by rw [hpa]; rfl) ?_
            obtain ⟨RB2, hRB⟩ : ∃ RB2 : Loop, RB2 = { rec2 with state := .busy } := ⟨_, rfl⟩
            rw [← hRB]
            have HRB := Lib.hid hRB
            clear hRB
            rw [has, hbo, hpa, htm]
            clear has hbo hpa htm hst hpe
            have hjl := h1.1
            have hI := h1
            gi_wp2
            refine ⟨hjl, ?_⟩
            have hB1 : SameCells wa (A.putObj lr2 (.loop RB2)) := hI.2.2.1.put hjl
            have hB2 : wa.heap.size ≤ (A.putObj lr2 (.loop RB2)).heap.size := by rw [World.putObj_size]; exact hI.2.2.2.1
            have hB3 : Below w.heap.size w (A.putObj lr2 (.loop RB2)) := hI.2.2.2.2.trans (belowK_b (w := w) (Nat.le_refl _) A lr2 _ _ (by omega) hjl rfl rfl)
            have hB4 : (A.putObj lr2 (.loop RB2)).heap[lr2]? = some (.loop RB2) := World.putObj_heap_same (Array.getElem?_eq_some_iff.1 hjl).1
            have hB5 : (A.putObj lr2 (.loop RB2)).heap[D2]? = some (.deferred (some [])) := (World.putObj_heap_other (by omega)).trans hI.2.1
            have hB6 : SameCells A (A.putObj lr2 (.loop RB2)) := (SameCells.refl A).put hjl
            have hB7 : MK w [D] (A.putObj lr2 (.loop RB2)) := h2.put hjl
            have e12 : (A.putObj lr2 (.loop RB2)).heap[X12]? = _ := (World.putObj_heap_other (show X12 ≠ lr2 by omega)).trans h3
            have e13 : (A.putObj lr2 (.loop RB2)).heap[X13]? = _ := (World.putObj_heap_other (show X13 ≠ lr2 by omega)).trans h4
            generalize A.putObj lr2 (.loop RB2) = A1 at *
            clear hI hjl h1 h2 h3 h4
            have hnrm : ∀ (ac : Act) (bb' : Bool) (W7 : World), Below A1.heap.size A1 W7 → (bb' = true ↔ (bb = true ∧ keep g ⟨vl, vh, l⟩ c vl i j = true)) →
                twoPost Tryz.prog lr2 rec2 (fun e B => (e = .returned (.bool true) ∧ (RInv lr2 D2 rec2 w wa B ∧ MK w [D] B ∧ B.heap[X12]? = some (.cells #[.int .i64 vl] 3) ∧ ∃ bb : Bool, B.heap[X13]? = some (.cells #[.bool bb] 4) ∧ (bb = true ↔ ∀ i_1 j_1, i_1 < n → j_1 < n → i_1 ≠ j_1 → i_1 * n + j_1 < i * n + j + 1 → keep g ⟨vl, vh, l⟩ c vl i_1 j_1 = true)) ∧ KeepF w9.heap.size A B) ∨ (e = .returned (.bool false) ∧ False)) .normal ac (W7.setCell ⟨X13, 0, none⟩ (.bool bb')) := by
              intro ac bb' W7 hb7 hbb
              have g4 : W7.heap[lr2]? = some (.loop RB2) := (hb7.block _ (Array.getElem?_eq_some_iff.1 hB4).1).trans hB4
              have g5 : W7.heap[D2]? = some (.deferred (some [])) := (hb7.block _ (Array.getElem?_eq_some_iff.1 hB5).1).trans hB5
              have g12 := (hb7.block _ (Array.getElem?_eq_some_iff.1 e12).1).trans e12
              have g13 := (hb7.block _ (Array.getElem?_eq_some_iff.1 e13).1).trans e13
              have g4' := (heap_set_ne (v := Value.bool bb') (show lr2 ≠ X13 by omega)).trans g4
              have g5' := (heap_set_ne (v := Value.bool bb') (show D2 ≠ X13 by omega)).trans g5
              refine ⟨by rw [← HRB.out]; exact g4', .inl ⟨rfl, ⟨RInv.ready (A1 := A1) ((hB1.below hb7).set n13) (by simp; exact Nat.le_trans hB2 hb7.size) ((hB3.trans (hb7.mono hB3.size)).setCell (show w.heap.size ≤ X13 by omega) _) g4' g5' (by omega), ((hB7.below hb7).set g13).put g4', (World.putObj_heap_other (show X12 ≠ lr2 by omega)).trans ((heap_set_ne (Ne.symm nX)).trans g12), bb', (World.putObj_heap_other (show X13 ≠ lr2 by omega)).trans (cells_set g13), ?_⟩, fun k cc tt zz hk0 hk => ?_⟩⟩
              · rw [hbb]
                constructor
                · rintro ⟨hb1, hb2⟩ i' j' hi' hj' hne hlt
                  by_cases he : i' * n + j' = i * n + j
                  · obtain ⟨rfl, rfl⟩ := grid_ne hj hj' he
                    exact hb2
                  · exact h5.1 hb1 i' j' hi' hj' hne (by omega)
                · intro h
                  exact ⟨h5.2 (fun i' j' hi' hj' hne hlt => h i' j' hi' hj' hne (by omega)), h i j hi hj hij (by omega)⟩
              · have h1 := hb7.block _ (Array.getElem?_eq_some_iff.1 (hB6 _ _ _ _ hk)).1
                have h2 := h1.trans (hB6 _ _ _ _ hk)
                have hne : k ≠ lr2 := by rintro rfl; rw [g4] at h2; cases h2
                rw [World.putObj_heap_other hne, heap_set_ne (show k ≠ X13 by omega)]
                exact h2
            have HNRM := Lib.hid hnrm
            clear hnrm
            have kx := hB1 _ _ _ _ k2
            have k5' := hB1.cell k5
            have hPA : PairsR A1 av n L := HPa.out.same hB1 hB2
            obtain ⟨bL, oL, rfl, u1, u2⟩ := pair_cell hPA hi
            obtain ⟨bL', oL', he, u3, u4⟩ := pair_cell hPA hj
            obtain ⟨rfl, rfl⟩ : bL = bL' ∧ oL = oL' := by simpa using he
            have HLA := Lib.hid (fun (W : World) (hW : Below A1.heap.size A1 W) => late_any (.int .i64 g.f.x) (.int .i64 g.f.y) (.int .i64 g.f.z) (.int .i64 g.st) (.int .i64 g.c.x) (.int .i64 g.c.y) (.int .i64 g.c.z) (.int .i64 vl) (.int .i64 vh) l (some ⟨b, o, none⟩) n cap i j W ((HLa.out.same hB1 hB2).below hW) hi hj (fun k hk => by have := HSS.out k hk; omega))
            have t0 := cell_of_row _ _ 0 _ _ _ kx
            have t1 := cell_of_row _ _ 1 _ _ _ kx
            have t2 := cell_of_row _ _ 2 _ _ _ kx
            have t3 := cell_of_row _ _ 3 _ _ _ kx
            have t4 := cell_of_row _ _ 4 _ _ _ kx
            have t5 := cell_of_row _ _ 5 _ _ _ kx
            have t6 := cell_of_row _ _ 6 _ _ _ kx
            have t7 := cell_of_row _ _ 7 _ _ _ kx
            have t8 := cell_of_row _ _ 8 _ _ _ kx
            have t9 := cell_of_row _ _ 9 _ _ _ kx
            have y12 := cell_of_row _ _ 0 _ _ _ e12
            have y13 := cell_of_row _ _ 0 _ _ _ e13
            simp only [List.getElem?_toArray, List.getElem?_cons_zero, List.getElem?_cons_succ] at t0 t1 t2 t3 t4 t5 t6 t7 t8 t9 y12 y13
            obtain ⟨⟨a1, a2⟩, hA1⟩ : ∃ p, p = L.getD i (0, 0) := ⟨_, rfl⟩
            obtain ⟨⟨b1, b2⟩, hA2⟩ : ∃ p, p = L.getD j (0, 0) := ⟨_, rfl⟩
            rw [← hA1] at u1 u2
            rw [← hA2] at u3 u4
            obtain ⟨T, hT⟩ : ∃ T, T = lat l i j := ⟨_, rfl⟩
            rw [← hT] at HLA
            have hex : keep g ⟨vl, vh, l⟩ c vl i j = decide (b2 - a1 ≤ vl * T) := by
              unfold keep
              rw [← dAt_get (g := g) (c := c) (show j < l.length by rw [HLN.out]; exact hj), ← dAt_get (g := g) (c := c) (show i < l.length by rw [HLN.out]; exact hi), ← HLM.out.1, ← hA1, ← hA2, hT]
            have ba : (0 ≤ b2 ∧ b2 ≤ 2097152) ∧ (0 ≤ a1 ∧ a1 ≤ 2097152) := by
              have h1 : (a1, a2) = dOf g c (sAt l i) := by rw [hA1, HLM.out.1, dAt_get (by rw [HLN.out]; exact hi)]; rfl
              have h2 : (b1, b2) = dOf g c (sAt l j) := by rw [hA2, HLM.out.1, dAt_get (by rw [HLN.out]; exact hj)]; rfl
              have h3 := dOf_bd g c (sAt l i)
              have h4 := dOf_bd g c (sAt l j)
              rw [← h1] at h3
              rw [← h2] at h4
              exact ⟨h4.2, h3.1⟩
            have bt : -1000000 ≤ T ∧ T ≤ 1000000 := by
              have h1 := HSS.out i hi
              have h2 := HSS.out j hj
              rw [hT]; unfold lat; omega
            have m1 := mulb (a := vl) (b := T) 10000 1000000 10000000000 (by omega) (by omega) bt.1 bt.2 (by omega)
            have w1 : IntKind.i64.wrap (b2 - a1) = b2 - a1 := by rw [IntKind.wrap_i64]; omega
            have w2 : IntKind.i64.wrap (vl * T) = vl * T := by rw [IntKind.wrap_i64]; omega
            have i0 : (0 : Int) ≤ (i : Int) := by omega
            have i1 : (i : Int) < (n : Int) := by omega
            have j0 : (0 : Int) ≤ (j : Int) := by omega
            have j1 : (j : Int) < (n : Int) := by omega
            have f13 := frozen_of_row _ _ 0 _ _ e13
            have E13 := Lib.hid e13
            rw [hex] at HNRM
            clear hex hT hA1 hA2 hPA he hB1 hB2 hB3 hB4 hB5 hB6 hB7 e12 e13 kx h5
            cases bb
            · gi_wp2
              refine round_later_tail 21 (by kernel_rfl) rfl (by repeat (first | exact not_out_two | refine not_out_then ?_ | refine not_out_block ?_)) (by kernel_rfl) ?_; simp only [List.take_succ_cons, List.take_zero, List.drop_succ_cons, List.drop_zero]; repeat go_big_quiet_step (fail)
              refine wpQuiet_nil ?_; intro w7 hb7
              have q13 := (hb7.block _ (Array.getElem?_eq_some_iff.1 E13.out).1).trans E13.out
              have r13 := cell_of_row _ _ 0 _ _ _ q13
              have s13 := frozen_of_row _ _ 0 _ _ q13
              simp only [List.getElem?_toArray, List.getElem?_cons_zero] at r13
              have HB7 := Lib.hid hb7
              clear hb7 q13 w1 w2
              go_wp2_with fail
              gi_wp2
              exact HNRM.out _ false _ HB7.out (by simp)
            · gi_wp2
              refine round_later_tail 21 (by kernel_rfl) rfl (by repeat (first | exact not_out_two | refine not_out_then ?_ | refine not_out_block ?_)) (by kernel_rfl) ?_; simp only [List.take_succ_cons, List.take_zero, List.drop_succ_cons, List.drop_zero]; repeat go_big_quiet_step (first | (with_reducible exact calls_later (HLA.out _ (Later.below _))))
              refine wpQuiet_nil ?_; intro w7 hb7
              have q13 := (hb7.block _ (Array.getElem?_eq_some_iff.1 E13.out).1).trans E13.out
              have r13 := cell_of_row _ _ 0 _ _ _ q13
              have s13 := frozen_of_row _ _ 0 _ _ q13
              simp only [List.getElem?_toArray, List.getElem?_cons_zero] at r13
              have HB7 := Lib.hid hb7
              clear hb7 q13 w1 w2
              go_wp2_with fail
              gi_wp2
              exact HNRM.out _ _ _ HB7.out (by simp)
          rintro e W ⟨⟨v, rfl⟩, h⟩
          obtain ⟨h1, h2, h3, bb, h4, h5⟩ := h.resolve_right id
          refine ⟨⟨_, rfl⟩, .inl ⟨h1.1, ?_⟩⟩
          have hS := h1.2.2.1.put (r' := { rec2 with state := .exhausted }) h1.1
          have hZ : wa.heap.size ≤ (W.putObj lr2 (.loop { rec2 with state := .exhausted })).heap.size := by rw [World.putObj_size]; exact h1.2.2.2.1
          have hBw : Below w.heap.size w (W.putObj lr2 (.loop { rec2 with state := .exhausted })) := h1.2.2.2.2.trans (belowK_b (w := w) (Nat.le_refl _) W lr2 _ _ (by omega) h1.1 rfl rfl)
          have hM : MK w (D2 :: [D]) (W.putObj lr2 (.loop { rec2 with state := .exhausted })) := (h2.cons h1.2.1 hwD hnD).put h1.1
          have g13 : (W.putObj lr2 (.loop { rec2 with state := .exhausted })).heap[X13]? = _ := (World.putObj_heap_other (show X13 ≠ lr2 by omega)).trans h4
          generalize W.putObj lr2 (.loop { rec2 with state := .exhausted }) = W2 at *
          have HBB := Lib.hid (show bb = allP l.length (keep g ⟨vl, vh, l⟩ c vl) from Bool.eq_iff_iff.2 (h5.trans (by
            rw [allP_iff, HLN.out]
            exact ⟨fun h i j hi hj hne => h i j hi hj hne (by have := Nat.mul_le_mul_right n (show i + 1 ≤ n by omega); rw [Nat.succ_mul] at this; omega), fun h i j hi hj hne _ => h i j hi hj hne⟩)))
          have g4 := hS _ _ _ _ k4
          have c4 := cell_of_row _ _ 0 _ _ _ g4
          have f4 := frozen_of_row _ _ 0 _ _ g4
          have c13 := cell_of_row _ _ 0 _ _ _ g13
          simp only [List.getElem?_toArray, List.getElem?_cons_zero] at c4 c13
          have HG4 := Lib.hid g4
          clear h h1 h2 h3 h4 h5 hst hpe hpa htm has hbo hI9 hM9 h12 h13 g13 g4
          cases bb
          rotate_left
          · go_wp2_with fail
            have hx4 : w.heap.size ≤ X4 := by omega
            have hbW : Below w.heap.size w (W2.setCell ⟨X4, 0, none⟩ (.int .i64 2)) := hBw.setCell hx4 _
            have hMW : MK w (D2 :: [D]) (W2.setCell ⟨X4, 0, none⟩ (.int .i64 2)) := hM.set HG4.out
            have hX4 := cells_set (v := Value.int .i64 2) HG4.out
            generalize W2.setCell ⟨X4, 0, none⟩ (.int .i64 2) = WF at *
            refine leaves_marks (B := w.heap.size) (w0 := w) (D2 :: [D]) WF hMW.1 hMW.2 hbW (fun w' hs hb' => ⟨.int .i64 2, ?_, ?_, hb'⟩)
            · have c4 := cell_of_row _ _ 0 _ _ _ (hs _ _ _ _ hX4)
              simp only [List.getElem?_toArray, List.getElem?_cons_zero] at c4
              simp [results, Tryz.results62, go_sem, c4]
            · unfold ans
              rw [if_pos HALL.out, if_pos]
              first | exact .inl HBB.out.symm | exact .inr HBB.out.symm
          have HBF2 := Lib.hid (show ¬ allP l.length (keep g ⟨vl, vh, l⟩ c vl) = true by rw [← HBB.out]; decide)
          clear HBB
          go_wp2_with fail
          clear HG4 c4 f4 c13
          try simp only [Exit.then]
          rw [rounds_succ]
          have kx := hS _ _ _ _ k2
          have t0 := cell_of_row _ _ 0 _ _ _ kx
          have t1 := cell_of_row _ _ 1 _ _ _ kx
          have t2 := cell_of_row _ _ 2 _ _ _ kx
          have t3 := cell_of_row _ _ 3 _ _ _ kx
          have t4 := cell_of_row _ _ 4 _ _ _ kx
          have t5 := cell_of_row _ _ 5 _ _ _ kx
          have t6 := cell_of_row _ _ 6 _ _ _ kx
          have t7 := cell_of_row _ _ 7 _ _ _ kx
          have t8 := cell_of_row _ _ 8 _ _ _ kx
          have t9 := cell_of_row _ _ 9 _ _ _ kx
          simp only [List.getElem?_toArray, List.getElem?_cons_zero, List.getElem?_cons_succ] at t0 t1 t2 t3 t4 t5 t6 t7 t8 t9
          have l2 : X2 < W2.heap.size := by omega
          go_wp2_with fail
          generalize hW : World.alloc (World.alloc W2 _) _ = wb
          have hbb : Below W2.heap.size W2 wb := by rw [← hW]; (repeat' (first | (with_reducible exact Below.refl _ _) | (with_reducible assumption) | (with_reducible refine Below.drewN ?_ _) | (with_reducible refine Below.alloc ?_ ?_ _) | (with_reducible refine Below.drew ?_) | (with_reducible refine Below.setCell ?_ ?_ _) | (with_reducible refine Below.step (by assumption) ?_ ?_) | (with_reducible exact And.left (by assumption)) | go_size))
          have k13 : wb.heap[W2.heap.size + 1]? = some (.cells #[.bool true] 4) := by
            rw [← hW]
            have := heap_alloc_new (W2.alloc (Obj.cells #[.int .i64 vh] 3)) (Obj.cells #[.bool true] 4)
            simpa using this
          have k12 : wb.heap[W2.heap.size]? = some (.cells #[.int .i64 vh] 3) := by
            rw [← hW, Below.heap_alloc _ _ _ (by simp)]; exact heap_alloc_new _ _
          have hzb : wb.heap.size = W2.heap.size + 1 + 1 := by rw [← hW]; simp
          obtain ⟨X12, hX12⟩ : ∃ X, X = W2.heap.size := ⟨_, rfl⟩
          obtain ⟨X13, hX13⟩ : ∃ X, X = W2.heap.size + 1 := ⟨_, rfl⟩
          rw [← hX12] at k12
          rw [← hX13] at k13
          rw [← hX13, ← hX12]
          have hS := hS.below hbb
          have hZ : wa.heap.size ≤ wb.heap.size := by omega
          have hM := hM.below hbb
          have hBw := hBw.trans (hbb.mono hBw.size)
          have n13 : wa.heap[X13]? = none := Array.getElem?_eq_none (by omega)
          have nX : X13 ≠ X12 := by omega
          have xz : wa.heap.size ≤ X12 := by omega
          have x1213 : X12 < X13 := by omega
          have xzb : X13 < wb.heap.size := by omega
          clear hW hbb t0 t1 t2 t3 t4 t5 t6 t7 t8 t9 kx hX12 hX13
          refine (wpIn_wide (n := 3)).1 ?_
          refine range_two (gf := 112) (fst := #[.agg #[.int .i64 g.f.x, .int .i64 g.f.y, .int .i64 g.f.z, .int .i64 g.st, .int .i64 g.c.x, .int .i64 g.c.y, .int .i64 g.c.z, .int .i64 vl, .int .i64 vh, .slice (some ⟨b, o, none⟩) n cap]]) (lst := #[]) rfl cf_pairs ?_
          intro rec3 hst hpe hpa htm has hbo
          have hL1 : ((wb.alloc (.deferred (some []))).alloc (.loop rec3)).heap[wb.heap.size + 1]? = some (.loop rec3) := by
            have := World.alloc_heap_new (wb.alloc (.deferred (some []))) (.loop rec3); rwa [World.size_alloc] at this
          have hK1 : ((wb.alloc (.deferred (some []))).alloc (.loop rec3)).heap[wb.heap.size]? = some (.deferred (some [])) := (Below.heap_alloc _ _ _ (by simp)).trans (World.alloc_heap_new wb _)
          have hb9 : Below wb.heap.size wb ((wb.alloc (.deferred (some []))).alloc (.loop rec3)) := by (repeat' (first | (with_reducible exact Below.refl _ _) | (with_reducible assumption) | (with_reducible refine Below.drewN ?_ _) | (with_reducible refine Below.alloc ?_ ?_ _) | (with_reducible refine Below.drew ?_) | (with_reducible refine Below.setCell ?_ ?_ _) | (with_reducible refine Below.step (by assumption) ?_ ?_) | (with_reducible exact And.left (by assumption)) | go_size))
          generalize (wb.alloc (.deferred (some []))).alloc (.loop rec3) = w9 at *
          obtain ⟨lr3, hlr⟩ : ∃ lr3, lr3 = wb.heap.size + 1 := ⟨_, rfl⟩
          obtain ⟨D3, hD⟩ : ∃ D3, D3 = wb.heap.size := ⟨_, rfl⟩
          rw [← hlr] at hL1
          rw [← hD] at hK1
          simp only [← hlr]
          simp only [← hD]
          have x13D : X13 < D3 := by omega
          have dl : D3 < lr3 := by omega
          have hwD : w.heap.size ≤ D3 := by have := hBw.size; omega
          have hnD : D3 ∉ [D2, D] := fun h => by have := (Array.getElem?_eq_some_iff.1 (hM.2 D3 h).2).1; omega
          have hI9 : RInv lr3 D3 rec3 w wa w9 := ⟨hL1, hK1, hS.below hb9, Nat.le_trans hZ hb9.size, hBw.trans (hb9.mono hBw.size)⟩
          have h13 := (hb9.block _ (Array.getElem?_eq_some_iff.1 k13).1).trans k13
          have h12 := (hb9.block _ (Array.getElem?_eq_some_iff.1 k12).1).trans k12
          have hM9 := hM.below hb9
          have x9 : X13 < w9.heap.size := (Array.getElem?_eq_some_iff.1 h13).1
          clear hL1 hK1 hb9 hlr hD hS hZ hBw hM k12 k13 hzb xzb
          show CallsIn Fence.wide _ _ _ #[.agg #[.int .i64 g.f.x, .int .i64 g.f.y, .int .i64 g.f.z, .int .i64 g.st, .int .i64 g.c.x, .int .i64 g.c.y, .int .i64 g.c.z, .int .i64 vl, .int .i64 vh, .slice (some ⟨b, o, none⟩) n cap], .func (.yield lr3) #[] #[]] _ _
          refine (callsIn_wide.2 (pairs_calls _ _ _ _ _ _ _ _ _ (some ⟨b, o, none⟩) n cap lr3
            (fun t W => RInv lr3 D3 rec3 w wa W ∧ MK w [D2, D] W ∧ W.heap[X12]? = some (.cells #[.int .i64 vh] 3) ∧ ∃ bb : Bool, W.heap[X13]? = some (.cells #[.bool bb] 4) ∧ (bb = true ↔ ∀ i j, i < n → j < n → i ≠ j → i * n + j < t → keep g ⟨vl, vh, l⟩ c vh i j = true))
            (fun _ => False) w9 (by omega) ?_ ?_ ?_ ⟨hI9, hM9, h12, true, h13, ⟨fun _ i j _ _ _ h => absurd h (by omega), fun _ => rfl⟩⟩)).mono ?_
          · rintro k A B ⟨h1, h2, h3, bb, h4, h5⟩ hb
            exact ⟨h1.below hb, h2.below hb, (hb.block _ (Array.getElem?_eq_some_iff.1 h3).1).trans h3, bb, (hb.block _ (Array.getElem?_eq_some_iff.1 h4).1).trans h4, h5⟩
          · rintro i A hi ⟨h1, h2, h3, bb, h4, h5⟩
            refine ⟨h1, h2, h3, bb, h4, h5.trans ⟨fun h i' j' hi' hj' hne hlt => h i' j' hi' hj' hne ?_, fun h i' j' hi' hj' hne hlt => h i' j' hi' hj' hne (by omega)⟩⟩
            by_cases he : i' * n + j' = i * n + i
            · exact absurd ((grid_ne hi hj' he).1.trans (grid_ne hi hj' he).2.symm) hne
            · omega
          · rintro i j A hi hj hij ⟨h1, h2, h3, bb, h4, h5⟩
            refine yield_two h1.1 hst hpe (by rw [hpa]; rfl) ?_
            obtain ⟨RB3, hRB⟩ : ∃ RB3 : Loop, RB3 = { rec3 with state := .busy } := ⟨_, rfl⟩
            rw [← hRB]
            have HRB := Lib.hid hRB
            clear hRB
            rw [has, hbo, hpa, htm]
            clear has hbo hpa htm hst hpe
            have hjl := h1.1
            have hI := h1
            gi_wp2
            refine ⟨hjl, ?_⟩
            have hB1 : SameCells wa (A.putObj lr3 (.loop RB3)) := hI.2.2.1.put hjl
            have hB2 : wa.heap.size ≤ (A.putObj lr3 (.loop RB3)).heap.size := by rw [World.putObj_size]; exact hI.2.2.2.1
            have hB3 : Below w.heap.size w (A.putObj lr3 (.loop RB3)) := hI.2.2.2.2.trans (belowK_b (w := w) (Nat.le_refl _) A lr3 _ _ (by omega) hjl rfl rfl)
            have hB4 : (A.putObj lr3 (.loop RB3)).heap[lr3]? = some (.loop RB3) := World.putObj_heap_same (Array.getElem?_eq_some_iff.1 hjl).1
            have hB5 : (A.putObj lr3 (.loop RB3)).heap[D3]? = some (.deferred (some [])) := (World.putObj_heap_other (by omega)).trans hI.2.1
            have hB6 : SameCells A (A.putObj lr3 (.loop RB3)) := (SameCells.refl A).put hjl
            have hB7 : MK w [D2, D] (A.putObj lr3 (.loop RB3)) := h2.put hjl
            have e12 : (A.putObj lr3 (.loop RB3)).heap[X12]? = _ := (World.putObj_heap_other (show X12 ≠ lr3 by omega)).trans h3
            have e13 : (A.putObj lr3 (.loop RB3)).heap[X13]? = _ := (World.putObj_heap_other (show X13 ≠ lr3 by omega)).trans h4
            generalize A.putObj lr3 (.loop RB3) = A1 at *
            clear hI hjl h1 h2 h3 h4
            have hnrm : ∀ (ac : Act) (bb' : Bool) (W7 : World), Below A1.heap.size A1 W7 → (bb' = true ↔ (bb = true ∧ keep g ⟨vl, vh, l⟩ c vh i j = true)) →
                twoPost Tryz.prog lr3 rec3 (fun e B => (e = .returned (.bool true) ∧ (RInv lr3 D3 rec3 w wa B ∧ MK w [D2, D] B ∧ B.heap[X12]? = some (.cells #[.int .i64 vh] 3) ∧ ∃ bb : Bool, B.heap[X13]? = some (.cells #[.bool bb] 4) ∧ (bb = true ↔ ∀ i_1 j_1, i_1 < n → j_1 < n → i_1 ≠ j_1 → i_1 * n + j_1 < i * n + j + 1 → keep g ⟨vl, vh, l⟩ c vh i_1 j_1 = true)) ∧ KeepF w9.heap.size A B) ∨ (e = .returned (.bool false) ∧ False)) .normal ac (W7.setCell ⟨X13, 0, none⟩ (.bool bb')) := by
              intro ac bb' W7 hb7 hbb
              have g4 : W7.heap[lr3]? = some (.loop RB3) := (hb7.block _ (Array.getElem?_eq_some_iff.1 hB4).1).trans hB4
              have g5 : W7.heap[D3]? = some (.deferred (some [])) := (hb7.block _ (Array.getElem?_eq_some_iff.1 hB5).1).trans hB5
              have g12 := (hb7.block _ (Array.getElem?_eq_some_iff.1 e12).1).trans e12
              have g13 := (hb7.block _ (Array.getElem?_eq_some_iff.1 e13).1).trans e13
              have g4' := (heap_set_ne (v := Value.bool bb') (show lr3 ≠ X13 by omega)).trans g4
              have g5' := (heap_set_ne (v := Value.bool bb') (show D3 ≠ X13 by omega)).trans g5
              refine ⟨by rw [← HRB.out]; exact g4', .inl ⟨rfl, ⟨RInv.ready (A1 := A1) ((hB1.below hb7).set n13) (by simp; exact Nat.le_trans hB2 hb7.size) ((hB3.trans (hb7.mono hB3.size)).setCell (show w.heap.size ≤ X13 by omega) _) g4' g5' (by omega), ((hB7.below hb7).set g13).put g4', (World.putObj_heap_other (show X12 ≠ lr3 by omega)).trans ((heap_set_ne (Ne.symm nX)).trans g12), bb', (World.putObj_heap_other (show X13 ≠ lr3 by omega)).trans (cells_set g13), ?_⟩, fun k cc tt zz hk0 hk => ?_⟩⟩
              · rw [hbb]
                constructor
                · rintro ⟨hb1, hb2⟩ i' j' hi' hj' hne hlt
                  by_cases he : i' * n + j' = i * n + j
                  · obtain ⟨rfl, rfl⟩ := grid_ne hj hj' he
                    exact hb2
                  · exact h5.1 hb1 i' j' hi' hj' hne (by omega)
                · intro h
                  exact ⟨h5.2 (fun i' j' hi' hj' hne hlt => h i' j' hi' hj' hne (by omega)), h i j hi hj hij (by omega)⟩
              · have h1 := hb7.block _ (Array.getElem?_eq_some_iff.1 (hB6 _ _ _ _ hk)).1
                have h2 := h1.trans (hB6 _ _ _ _ hk)
                have hne : k ≠ lr3 := by rintro rfl; rw [g4] at h2; cases h2
                rw [World.putObj_heap_other hne, heap_set_ne (show k ≠ X13 by omega)]
                exact h2
            have HNRM := Lib.hid hnrm
            clear hnrm
            have kx := hB1 _ _ _ _ k2
            have k5' := hB1.cell k5
            have hPA : PairsR A1 av n L := HPa.out.same hB1 hB2
            obtain ⟨bL, oL, rfl, u1, u2⟩ := pair_cell hPA hi
            obtain ⟨bL', oL', he, u3, u4⟩ := pair_cell hPA hj
            obtain ⟨rfl, rfl⟩ : bL = bL' ∧ oL = oL' := by simpa using he
            have HLA := Lib.hid (fun (W : World) (hW : Below A1.heap.size A1 W) => late_any (.int .i64 g.f.x) (.int .i64 g.f.y) (.int .i64 g.f.z) (.int .i64 g.st) (.int .i64 g.c.x) (.int .i64 g.c.y) (.int .i64 g.c.z) (.int .i64 vl) (.int .i64 vh) l (some ⟨b, o, none⟩) n cap i j W ((HLa.out.same hB1 hB2).below hW) hi hj (fun k hk => by have := HSS.out k hk; omega))
            have t0 := cell_of_row _ _ 0 _ _ _ kx
            have t1 := cell_of_row _ _ 1 _ _ _ kx
            have t2 := cell_of_row _ _ 2 _ _ _ kx
            have t3 := cell_of_row _ _ 3 _ _ _ kx
            have t4 := cell_of_row _ _ 4 _ _ _ kx
            have t5 := cell_of_row _ _ 5 _ _ _ kx
            have t6 := cell_of_row _ _ 6 _ _ _ kx
            have t7 := cell_of_row _ _ 7 _ _ _ kx
            have t8 := cell_of_row _ _ 8 _ _ _ kx
            have t9 := cell_of_row _ _ 9 _ _ _ kx
            have y12 := cell_of_row _ _ 0 _ _ _ e12
            have y13 := cell_of_row _ _ 0 _ _ _ e13
            simp only [List.getElem?_toArray, List.getElem?_cons_zero, List.getElem?_cons_succ] at t0 t1 t2 t3 t4 t5 t6 t7 t8 t9 y12 y13
            obtain ⟨⟨a1, a2⟩, hA1⟩ : ∃ p, p = L.getD i (0, 0) := ⟨_, rfl⟩
            obtain ⟨⟨b1, b2⟩, hA2⟩ : ∃ p, p = L.getD j (0, 0) := ⟨_, rfl⟩
            rw [← hA1] at u1 u2
            rw [← hA2] at u3 u4
            obtain ⟨T, hT⟩ : ∃ T, T = lat l i j := ⟨_, rfl⟩
            rw [← hT] at HLA
            have hex : keep g ⟨vl, vh, l⟩ c vh i j = decide (b2 - a1 ≤ vh * T) := by
              unfold keep
              rw [← dAt_get (g := g) (c := c) (show j < l.length by rw [HLN.out]; exact hj), ← dAt_get (g := g) (c := c) (show i < l.length by rw [HLN.out]; exact hi), ← HLM.out.1, ← hA1, ← hA2, hT]
            have ba : (0 ≤ b2 ∧ b2 ≤ 2097152) ∧ (0 ≤ a1 ∧ a1 ≤ 2097152) := by
              have h1 : (a1, a2) = dOf g c (sAt l i) := by rw [hA1, HLM.out.1, dAt_get (by rw [HLN.out]; exact hi)]; rfl
              have h2 : (b1, b2) = dOf g c (sAt l j) := by rw [hA2, HLM.out.1, dAt_get (by rw [HLN.out]; exact hj)]; rfl
              have h3 := dOf_bd g c (sAt l i)
              have h4 := dOf_bd g c (sAt l j)
              rw [← h1] at h3
              rw [← h2] at h4
              exact ⟨h4.2, h3.1⟩
            have bt : -1000000 ≤ T ∧ T ≤ 1000000 := by
              have h1 := HSS.out i hi
              have h2 := HSS.out j hj
              rw [hT]; unfold lat; omega
            have m1 := mulb (a := vh) (b := T) 10000 1000000 10000000000 (by omega) (by omega) bt.1 bt.2 (by omega)
            have w1 : IntKind.i64.wrap (b2 - a1) = b2 - a1 := by rw [IntKind.wrap_i64]; omega
            have w2 : IntKind.i64.wrap (vh * T) = vh * T := by rw [IntKind.wrap_i64]; omega
            have i0 : (0 : Int) ≤ (i : Int) := by omega
            have i1 : (i : Int) < (n : Int) := by omega
            have j0 : (0 : Int) ≤ (j : Int) := by omega
            have j1 : (j : Int) < (n : Int) := by omega
            have f13 := frozen_of_row _ _ 0 _ _ e13
            have E13 := Lib.hid e13
            rw [hex] at HNRM
            clear hex hT hA1 hA2 hPA he hB1 hB2 hB3 hB4 hB5 hB6 hB7 e12 e13 kx h5
            cases bb
            · gi_wp2
              refine round_later_tail 21 (by kernel_rfl) rfl (by repeat (first | exact not_out_two | refine not_out_then ?_ | refine not_out_block ?_)) (by kernel_rfl) ?_; simp only [List.take_succ_cons, List.take_zero, List.drop_succ_cons, List.drop_zero]; repeat go_big_quiet_step (fail)
              refine wpQuiet_nil ?_; intro w7 hb7
              have q13 := (hb7.block _ (Array.getElem?_eq_some_iff.1 E13.out).1).trans E13.out
              have r13 := cell_of_row _ _ 0 _ _ _ q13
              have s13 := frozen_of_row _ _ 0 _ _ q13
              simp only [List.getElem?_toArray, List.getElem?_cons_zero] at r13
              have HB7 := Lib.hid hb7
              clear hb7 q13 w1 w2
              go_wp2_with fail
              gi_wp2
              exact HNRM.out _ false _ HB7.out (by simp)
            · gi_wp2
              refine round_later_tail 21 (by kernel_rfl) rfl (by repeat (first | exact not_out_two | refine not_out_then ?_ | refine not_out_block ?_)) (by kernel_rfl) ?_; simp only [List.take_succ_cons, List.take_zero, List.drop_succ_cons, List.drop_zero]; repeat go_big_quiet_step (first | (with_reducible exact calls_later (HLA.out _ (Later.below _))))
              refine wpQuiet_nil ?_; intro w7 hb7
              have q13 := (hb7.block _ (Array.getElem?_eq_some_iff.1 E13.out).1).trans E13.out
              have r13 := cell_of_row _ _ 0 _ _ _ q13
              have s13 := frozen_of_row _ _ 0 _ _ q13
              simp only [List.getElem?_toArray, List.getElem?_cons_zero] at r13
              have HB7 := Lib.hid hb7
              clear hb7 q13 w1 w2
              go_wp2_with fail
              gi_wp2
              exact HNRM.out _ _ _ HB7.out (by simp)
          rintro e W ⟨⟨v, rfl⟩, h⟩
          obtain ⟨h1, h2, h3, bb, h4, h5⟩ := h.resolve_right id
          refine ⟨⟨_, rfl⟩, .inl ⟨h1.1, ?_⟩⟩
          have hS := h1.2.2.1.put (r' := { rec3 with state := .exhausted }) h1.1
          have hZ : wa.heap.size ≤ (W.putObj lr3 (.loop { rec3 with state := .exhausted })).heap.size := by rw [World.putObj_size]; exact h1.2.2.2.1
          have hBw : Below w.heap.size w (W.putObj lr3 (.loop { rec3 with state := .exhausted })) := h1.2.2.2.2.trans (belowK_b (w := w) (Nat.le_refl _) W lr3 _ _ (by omega) h1.1 rfl rfl)
          have hM : MK w (D3 :: [D2, D]) (W.putObj lr3 (.loop { rec3 with state := .exhausted })) := (h2.cons h1.2.1 hwD hnD).put h1.1
          have g13 : (W.putObj lr3 (.loop { rec3 with state := .exhausted })).heap[X13]? = _ := (World.putObj_heap_other (show X13 ≠ lr3 by omega)).trans h4
          generalize W.putObj lr3 (.loop { rec3 with state := .exhausted }) = W3 at *
          have HBB := Lib.hid (show bb = allP l.length (keep g ⟨vl, vh, l⟩ c vh) from Bool.eq_iff_iff.2 (h5.trans (by
            rw [allP_iff, HLN.out]
            exact ⟨fun h i j hi hj hne => h i j hi hj hne (by have := Nat.mul_le_mul_right n (show i + 1 ≤ n by omega); rw [Nat.succ_mul] at this; omega), fun h i j hi hj hne _ => h i j hi hj hne⟩)))
          have g4 := hS _ _ _ _ k4
          have c4 := cell_of_row _ _ 0 _ _ _ g4
          have f4 := frozen_of_row _ _ 0 _ _ g4
          have c13 := cell_of_row _ _ 0 _ _ _ g13
          simp only [List.getElem?_toArray, List.getElem?_cons_zero] at c4 c13
          have HG4 := Lib.hid g4
          clear h h1 h2 h3 h4 h5 hst hpe hpa htm has hbo hI9 hM9 h12 h13 g13 g4
          cases bb
          rotate_left
          · go_wp2_with fail
            have hx4 : w.heap.size ≤ X4 := by omega
            have hbW : Below w.heap.size w (W3.setCell ⟨X4, 0, none⟩ (.int .i64 2)) := hBw.setCell hx4 _
            have hMW : MK w (D3 :: [D2, D]) (W3.setCell ⟨X4, 0, none⟩ (.int .i64 2)) := hM.set HG4.out
            have hX4 := cells_set (v := Value.int .i64 2) HG4.out
            generalize W3.setCell ⟨X4, 0, none⟩ (.int .i64 2) = WF at *
            refine leaves_marks (B := w.heap.size) (w0 := w) (D3 :: [D2, D]) WF hMW.1 hMW.2 hbW (fun w' hs hb' => ⟨.int .i64 2, ?_, ?_, hb'⟩)
            · have c4 := cell_of_row _ _ 0 _ _ _ (hs _ _ _ _ hX4)
              simp only [List.getElem?_toArray, List.getElem?_cons_zero] at c4
              simp [results, Tryz.results62, go_sem, c4]
            · unfold ans
              rw [if_pos HALL.out, if_pos]
              first | exact .inl HBB.out.symm | exact .inr HBB.out.symm
          have HBF3 := Lib.hid (show ¬ allP l.length (keep g ⟨vl, vh, l⟩ c vh) = true by rw [← HBB.out]; decide)
          clear HBB
          go_wp2_with fail
          clear c13
          try simp only [Exit.then]
          rw [rounds_succ]
          go_wp2_with fail
          have hx4 : w.heap.size ≤ X4 := by omega
          have hbW : Below w.heap.size w (W3.setCell ⟨X4, 0, none⟩ (.int .i64 1)) := hBw.setCell hx4 _
          have hMW : MK w (D3 :: [D2, D]) (W3.setCell ⟨X4, 0, none⟩ (.int .i64 1)) := hM.set HG4.out
          have hX4 := cells_set (v := Value.int .i64 1) HG4.out
          generalize W3.setCell ⟨X4, 0, none⟩ (.int .i64 1) = WF at *
          refine leaves_marks (B := w.heap.size) (w0 := w) (D3 :: [D2, D]) WF hMW.1 hMW.2 hbW (fun w' hs hb' => ⟨.int .i64 1, ?_, ?_, hb'⟩)
          · have c4 := cell_of_row _ _ 0 _ _ _ (hs _ _ _ _ hX4)
            simp only [List.getElem?_toArray, List.getElem?_cons_zero] at c4
            simp [results, Tryz.results62, go_sem, c4]
          · unfold ans
            rw [if_pos HALL.out, if_neg]
            rintro (h | h)
            · exact HBF2.out h
            · exact HBF3.out h
        · refine ⟨⟨_, rfl⟩, .inr ⟨by rw [h1, HRD.out], ?_⟩⟩
          have nlD : D ≠ lr := by omega
          have n4l : X4 ≠ lr := by omega
          have g2 : (W.putObj lr (.loop { rec with state := .exhausted, pending := some .ret })).heap[D]? = some (.deferred (some [])) := (World.putObj_heap_other nlD).trans h2
          have g3 : (W.putObj lr (.loop { rec with state := .exhausted, pending := some .ret })).heap[X4]? = some (.cells #[.int .i64 0] 3) := (World.putObj_heap_other n4l).trans h3
          have g4 : Below w.heap.size w (W.putObj lr (.loop { rec with state := .exhausted, pending := some .ret })) := h4.trans (belowK_b (w := w) (Nat.le_refl _) W lr _ _ (by omega) h1 rfl rfl)
          generalize W.putObj lr (.loop { rec with state := .exhausted, pending := some .ret }) = W2 at *
          refine leaves_marks (B := w.heap.size) (w0 := w) [D] W2 (by simp) (fun E hE => by simp at hE; subst hE; exact ⟨h4D, g2⟩) g4 (fun w' hs hb' => ⟨.int .i64 0, ?_, by rw [h5], hb'⟩)
          have c4 := cell_of_row _ _ 0 _ _ _ (hs _ _ _ _ g3)
          simp only [List.getElem?_toArray, List.getElem?_cons_zero] at c4
          simp [results, Tryz.results62, go_sem, c4]
end Go.Proofs.YtdklmcicogmeaaaGreat
