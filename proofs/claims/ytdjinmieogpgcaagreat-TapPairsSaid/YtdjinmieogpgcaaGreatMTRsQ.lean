import Derived.Test.YtdjinmieogpgcaaGreatMTPaQ
/- After how many ticks a pair rests: the program's generic function at pairs. (Rows of the model (TRow) in the place of cells.) -/
namespace Go.Proofs.YtdjinmieogpgcaaGreat
open Go.RowKit Go.Shelf
set_option linter.unusedVariables false
set_option linter.unusedSimpArgs false
theorem PaiV.ok {p : Pai} (h : PaiV p) : okP p := by
 obtain ⟨ha, hb, ⟨⟨h1, h2⟩, h3, h4⟩, ⟨h5, h6⟩, h7, h8⟩ := h
 have a0 := ha.t0
 have a1 := ha.t1
 have a2 := ha.b0
 have a3 := ha.b1
 have a4 := ha.d0
 have a5 := ha.d1
 have a6 := ha.s0
 have a7 := ha.s1
 have a8 := ha.l0
 have a9 := ha.l1
 have a10 := ha.h1
 have b0 := hb.t0
 have b1 := hb.t1
 have b2 := hb.b0
 have b3 := hb.b1
 have b4 := hb.d0
 have b5 := hb.d1
 have b6 := hb.s0
 have b7 := hb.s1
 have b8 := hb.l0
 have b9 := hb.l1
 have b10 := hb.h1
 unfold okP okI
 omega
set_option maxHeartbeats 1000000 in
set_option maxRecDepth 100000 in
theorem nextP_any (m : Pai) (d : Int) (XD : Nat) (w : World) (hm : PaiV m) (hd : -10000 ≤ d ∧ d ≤ 10000) (h2 : BlkR w XD (.cells #[.int .i64 d] 3)) :
    Calls Tryz.prog 40 #[.agg #[.int .i64 m.a.tgt, .int .i64 m.a.band, .int .i64 m.a.dly, .int .i64 m.a.stp, .int .i64 m.a.lo, .int .i64 m.a.hi, .int .i64 m.b.tgt, .int .i64 m.b.band, .int .i64 m.b.dly, .int .i64 m.b.stp, .int .i64 m.b.lo, .int .i64 m.b.hi, .int .i64 m.ma.tap, .int .i64 m.ma.wait, .int .i64 m.mb.tap, .int .i64 m.mb.wait], .pointer (some ⟨XD, 0, none⟩)] w fun e' w' => e' = .returned (.agg #[.int .i64 (tickP d m).a.tgt, .int .i64 (tickP d m).a.band, .int .i64 (tickP d m).a.dly, .int .i64 (tickP d m).a.stp, .int .i64 (tickP d m).a.lo, .int .i64 (tickP d m).a.hi, .int .i64 (tickP d m).b.tgt, .int .i64 (tickP d m).b.band, .int .i64 (tickP d m).b.dly, .int .i64 (tickP d m).b.stp, .int .i64 (tickP d m).b.lo, .int .i64 (tickP d m).b.hi, .int .i64 (tickP d m).ma.tap, .int .i64 (tickP d m).ma.wait, .int .i64 (tickP d m).mb.tap, .int .i64 (tickP d m).mb.wait]) ∧ Below w.heap.size w w' := by
 have HA := Lib.hid (fun (W : World) => pairTicked_any m d W hm hd)
 obtain ⟨R, hR⟩ : ∃ R, R = tickP d m := ⟨_, rfl⟩
 rw [← hR] at HA ⊢
 obtain ⟨⟨m0, m1, m2, m3, m4, m5⟩, ⟨m6, m7, m8, m9, m10, m11⟩, ⟨m12, m13⟩, ⟨m14, m15⟩⟩ := m
 obtain ⟨⟨q0, q1, q2, q3, q4, q5⟩, ⟨q6, q7, q8, q9, q10, q11⟩, ⟨q12, q13⟩, ⟨q14, q15⟩⟩ := R
 simp only at HA ⊢
 have d0 := blk_cell h2 (i := 0) rfl
 have l2 := h2.lt
 clear hm hR hd h2
 go_enter Tryz.func40, Tryz.ntmps40
 go_wp2_with fail
 refine (HA.out _).mono ?_
 rintro e5 w5 ⟨rfl, hb5⟩
 have k6 : w5.heap[w.heap.size + 1]? = some (.cells #[.int .i64 0, .int .i64 0, .int .i64 0, .int .i64 0, .int .i64 0, .int .i64 0, .int .i64 0, .int .i64 0, .int .i64 0, .int .i64 0, .int .i64 0, .int .i64 0, .int .i64 0, .int .i64 0, .int .i64 0, .int .i64 0] 29) := by
  rw [hb5.block _ (by simp)]
  have := heap_alloc_new (w.alloc (Obj.cells #[.int .i64 m0, .int .i64 m1, .int .i64 m2, .int .i64 m3, .int .i64 m4, .int .i64 m5, .int .i64 m6, .int .i64 m7, .int .i64 m8, .int .i64 m9, .int .i64 m10, .int .i64 m11, .int .i64 m12, .int .i64 m13, .int .i64 m14, .int .i64 m15] 29)) (Obj.cells #[.int .i64 0, .int .i64 0, .int .i64 0, .int .i64 0, .int .i64 0, .int .i64 0, .int .i64 0, .int .i64 0, .int .i64 0, .int .i64 0, .int .i64 0, .int .i64 0, .int .i64 0, .int .i64 0, .int .i64 0, .int .i64 0] 29)
  simpa using this
 have HB5 := Lib.hid (show Below w.heap.size w w5 by (first|exact bwg|go_size))
 obtain ⟨X6, hX6⟩ : ∃ X, X = w.heap.size + 1 := ⟨_, rfl⟩
 rw [← hX6] at k6 ⊢
 have hx6 : w.heap.size ≤ X6 := by omega
 have y_0 := blk_cell k6 (i := 0) rfl
 have f_0 := blk_fz k6 0
 have y_1 := blk_cell k6 (i := 1) rfl
 have f_1 := blk_fz k6 1
 have y_2 := blk_cell k6 (i := 2) rfl
 have f_2 := blk_fz k6 2
 have y_3 := blk_cell k6 (i := 3) rfl
 have f_3 := blk_fz k6 3
 have y_4 := blk_cell k6 (i := 4) rfl
 have f_4 := blk_fz k6 4
 have y_5 := blk_cell k6 (i := 5) rfl
 have f_5 := blk_fz k6 5
 have y_6 := blk_cell k6 (i := 6) rfl
 have f_6 := blk_fz k6 6
 have y_7 := blk_cell k6 (i := 7) rfl
 have f_7 := blk_fz k6 7
 have y_8 := blk_cell k6 (i := 8) rfl
 have f_8 := blk_fz k6 8
 have y_9 := blk_cell k6 (i := 9) rfl
 have f_9 := blk_fz k6 9
 have y_10 := blk_cell k6 (i := 10) rfl
 have f_10 := blk_fz k6 10
 have y_11 := blk_cell k6 (i := 11) rfl
 have f_11 := blk_fz k6 11
 have y_12 := blk_cell k6 (i := 12) rfl
 have f_12 := blk_fz k6 12
 have y_13 := blk_cell k6 (i := 13) rfl
 have f_13 := blk_fz k6 13
 have y_14 := blk_cell k6 (i := 14) rfl
 have f_14 := blk_fz k6 14
 have y_15 := blk_cell k6 (i := 15) rfl
 have f_15 := blk_fz k6 15
 have l6 := blk_lt k6
 have HK6 := Lib.hid k6
 clear hb5 k6 hX6
 go_wp2
 have kw := blk_put16 HK6.out (.int .i64 q0) (.int .i64 q1) (.int .i64 q2) (.int .i64 q3) (.int .i64 q4) (.int .i64 q5) (.int .i64 q6) (.int .i64 q7) (.int .i64 q8) (.int .i64 q9) (.int .i64 q10) (.int .i64 q11) (.int .i64 q12) (.int .i64 q13) (.int .i64 q14) (.int .i64 q15)
 have hbw := below_put16 HB5.out hx6 (.int .i64 q0) (.int .i64 q1) (.int .i64 q2) (.int .i64 q3) (.int .i64 q4) (.int .i64 q5) (.int .i64 q6) (.int .i64 q7) (.int .i64 q8) (.int .i64 q9) (.int .i64 q10) (.int .i64 q11) (.int .i64 q12) (.int .i64 q13) (.int .i64 q14) (.int .i64 q15)
 clear y_0 f_0 y_1 f_1 y_2 f_2 y_3 f_3 y_4 f_4 y_5 f_5 y_6 f_6 y_7 f_7 y_8 f_8 y_9 f_9 y_10 f_10 y_11 f_11 y_12 f_12 y_13 f_13 y_14 f_14 y_15 f_15
 generalize World.setCell (World.setCell (World.setCell (World.setCell (World.setCell (World.setCell (World.setCell (World.setCell (World.setCell (World.setCell (World.setCell (World.setCell (World.setCell (World.setCell (World.setCell (World.setCell (w5) ⟨X6, 0, none⟩ (.int .i64 q0)) ⟨X6, 1, none⟩ (.int .i64 q1)) ⟨X6, 2, none⟩ (.int .i64 q2)) ⟨X6, 3, none⟩ (.int .i64 q3)) ⟨X6, 4, none⟩ (.int .i64 q4)) ⟨X6, 5, none⟩ (.int .i64 q5)) ⟨X6, 6, none⟩ (.int .i64 q6)) ⟨X6, 7, none⟩ (.int .i64 q7)) ⟨X6, 8, none⟩ (.int .i64 q8)) ⟨X6, 9, none⟩ (.int .i64 q9)) ⟨X6, 10, none⟩ (.int .i64 q10)) ⟨X6, 11, none⟩ (.int .i64 q11)) ⟨X6, 12, none⟩ (.int .i64 q12)) ⟨X6, 13, none⟩ (.int .i64 q13)) ⟨X6, 14, none⟩ (.int .i64 q14)) ⟨X6, 15, none⟩ (.int .i64 q15) = wz at *
 have c_0 := blk_cell kw (i := 0) rfl
 have c_1 := blk_cell kw (i := 1) rfl
 have c_2 := blk_cell kw (i := 2) rfl
 have c_3 := blk_cell kw (i := 3) rfl
 have c_4 := blk_cell kw (i := 4) rfl
 have c_5 := blk_cell kw (i := 5) rfl
 have c_6 := blk_cell kw (i := 6) rfl
 have c_7 := blk_cell kw (i := 7) rfl
 have c_8 := blk_cell kw (i := 8) rfl
 have c_9 := blk_cell kw (i := 9) rfl
 have c_10 := blk_cell kw (i := 10) rfl
 have c_11 := blk_cell kw (i := 11) rfl
 have c_12 := blk_cell kw (i := 12) rfl
 have c_13 := blk_cell kw (i := 13) rfl
 have c_14 := blk_cell kw (i := 14) rfl
 have c_15 := blk_cell kw (i := 15) rfl
 refine bodyPost_ret (v := .agg #[.int .i64 q0, .int .i64 q1, .int .i64 q2, .int .i64 q3, .int .i64 q4, .int .i64 q5, .int .i64 q6, .int .i64 q7, .int .i64 q8, .int .i64 q9, .int .i64 q10, .int .i64 q11, .int .i64 q12, .int .i64 q13, .int .i64 q14, .int .i64 q15]) (by simp [results, Tryz.results40, go_sem, c_0, c_1, c_2, c_3, c_4, c_5, c_6, c_7, c_8, c_9, c_10, c_11, c_12, c_13, c_14, c_15]) rfl ⟨rfl, hbw⟩
set_option maxHeartbeats 1000000 in
set_option maxRecDepth 100000 in
theorem movesP_any (a b : Pai) (w : World) : Calls Tryz.prog 41 #[.agg #[.int .i64 a.a.tgt, .int .i64 a.a.band, .int .i64 a.a.dly, .int .i64 a.a.stp, .int .i64 a.a.lo, .int .i64 a.a.hi, .int .i64 a.b.tgt, .int .i64 a.b.band, .int .i64 a.b.dly, .int .i64 a.b.stp, .int .i64 a.b.lo, .int .i64 a.b.hi, .int .i64 a.ma.tap, .int .i64 a.ma.wait, .int .i64 a.mb.tap, .int .i64 a.mb.wait], .agg #[.int .i64 b.a.tgt, .int .i64 b.a.band, .int .i64 b.a.dly, .int .i64 b.a.stp, .int .i64 b.a.lo, .int .i64 b.a.hi, .int .i64 b.b.tgt, .int .i64 b.b.band, .int .i64 b.b.dly, .int .i64 b.b.stp, .int .i64 b.b.lo, .int .i64 b.b.hi, .int .i64 b.ma.tap, .int .i64 b.ma.wait, .int .i64 b.mb.tap, .int .i64 b.mb.wait]] w fun e' w' => e' = .returned (.bool (a.ma.tap != b.ma.tap || a.mb.tap != b.mb.tap)) ∧ Below w.heap.size w w' := by
 obtain ⟨⟨a0, a1, a2, a3, a4, a5⟩, ⟨a6, a7, a8, a9, a10, a11⟩, ⟨a12, a13⟩, ⟨a14, a15⟩⟩ := a
 obtain ⟨⟨b0, b1, b2, b3, b4, b5⟩, ⟨b6, b7, b8, b9, b10, b11⟩, ⟨b12, b13⟩, ⟨b14, b15⟩⟩ := b
 simp only
 obtain ⟨X, hX⟩ : ∃ X, X = (a12 != b12) := ⟨_, rfl⟩
 have hX2 : (a12 != b12) = X := hX.symm
 rw [hX2]
 clear hX
 cases X
 ·go_enter Tryz.func41, Tryz.ntmps41
  go_wp2
  go_ret
  exact ⟨ret_bool (by simp), by (first|exact bwg|go_size)⟩
 ·go_enter Tryz.func41, Tryz.ntmps41
  go_wp2
  go_ret
  exact ⟨ret_bool (by simp), by (first|exact bwg|go_size)⟩
def TickP (f : Pai → Pai) (m : Pai) (BM k : Nat) (w : World) : Prop :=
 ∃ g, MapG Tryz.prog 29 paiL okP w BM k g ∧ (∀ i, i < k → g (itr f m i) = some (.int .i64 (i : Int))) ∧ ∀ x, okP x → (∀ i, i < k → itr f m i ≠ x) → g x = none
def paiR (p : Pai) : Array Value := (paiC p).toArray
theorem paiR_size (p : Pai) : (paiR p).size = 16 := rfl
theorem paiR_one (p : Pai) : ∀ v ∈ (paiR p).toList, v.oneCell' = true := by
 intro v hv
 have hv : v ∈ paiC p := by simpa [paiR] using hv
 simp only [paiC, List.mem_cons, List.not_mem_nil, or_false] at hv
 rcases hv with rfl | rfl | rfl | rfl | rfl | rfl | rfl | rfl | rfl | rfl | rfl | rfl | rfl | rfl | rfl | rfl <;> rfl
theorem infoPair : (Tryz.prog.info? 29).map (·.size) = some 16 := by kernel_rfl
set_option maxHeartbeats 4000000 in
set_option maxRecDepth 100000 in
theorem restR_any (m : Pai) (d : Int) (XD : Nat) (w : World) (hm : PaiV m) (hd : -10000 ≤ d ∧ d ≤ 10000) (h2 : BlkR w XD (.cells #[.int .i64 d] 3)) :
    Calls Tryz.prog 42 #[.agg (paiR m), .func (.func 40) #[] #[.pointer (some ⟨XD, 0, none⟩)], .func (.func 41) #[] #[]] w
     fun e' w' => Below w.heap.size w w' ∧ ∃ T fr, Rep (tickP d) m T fr ∧ e' = .returned (.tuple #[.int .i64 ((lastM (tickP d) (mvP d) m T : Nat) : Int), .agg (paiR (itr (tickP d) m T)), .bool (decide (lastM (tickP d) (mvP d) m T ≤ fr))]) := by
 have HV := Lib.hid (fun (k : Nat) => itr_inv (f := tickP d) (p := PaiV) (tickP_valid d) hm k)
 have HOK := Lib.hid (fun (k : Nat) => PaiV.ok (HV.out k))
 have HBD := Lib.hid (fun (T : Nat) (h : ∀ i j, i < j → j < T → itr (tickP d) m i ≠ itr (tickP d) m j) => tickP_bound hm h)
 have HLE := Lib.hid (fun (k : Nat) => lastM_le (tickP d) (mvP d) m k)
 have hq0 : itr (tickP d) m 0 = m := rfl
 have HNX := Lib.hid (fun (k : Nat) (W : World) (hb : Below w.heap.size w W) => show Calls Tryz.prog 40 #[.agg (paiR (itr (tickP d) m k)), .pointer (some ⟨XD, 0, none⟩)] W (fun e' w' => e' = .returned (.agg (paiR (tickP d (itr (tickP d) m k)))) ∧ Below W.heap.size W w') from nextP_any (itr (tickP d) m k) d XD W (HV.out k) hd ((hb.block XD h2.lt).trans h2))
 have hit : ∀ k, tickP d (itr (tickP d) m k) = itr (tickP d) m (k + 1) := fun _ => rfl
 simp only [hit] at HNX
 have HMV := Lib.hid (fun (a b : Pai) (W : World) => show Calls Tryz.prog 41 #[.agg (paiR a), .agg (paiR b)] W (fun e' w' => e' = .returned (.bool (a.ma.tap != b.ma.tap || a.mb.tap != b.mb.tap)) ∧ Below W.heap.size W w') from movesP_any a b W)
 have HLS := Lib.hid (fun (k : Nat) => show lastM (tickP d) (mvP d) m (k + 1) = if ((itr (tickP d) m k).ma.tap != (itr (tickP d) m (k + 1)).ma.tap || (itr (tickP d) m k).mb.tap != (itr (tickP d) m (k + 1)).mb.tap) = true then k + 1 else lastM (tickP d) (mvP d) m k from by
  rw [show ((itr (tickP d) m k).ma.tap != (itr (tickP d) m (k + 1)).ma.tap || (itr (tickP d) m k).mb.tap != (itr (tickP d) m (k + 1)).mb.tap) = mvP d (itr (tickP d) m k) from by unfold mvP; rw [Bool.eq_iff_iff]; simp [itr]]
  rfl)
 have HPV := Lib.hid (show ∀ p, paiV p = .agg (paiR p) from fun _ => rfl)
 have hsz := paiR_size
 have HON := Lib.hid paiR_one
 clear hit
 generalize paiR = PC at *
 generalize hST : itr (tickP d) m = ST at *
 generalize hLA : lastM (tickP d) (mvP d) m = LA at *
 have HREP := Lib.hid (fun (T fr : Nat) (a : fr < T) (b : ST fr = ST T) (c : ∀ i j, i < j → j < T → ST i ≠ ST j) => show Rep (tickP d) m T fr from ⟨a, by rw [hST]; exact b, by rw [hST]; exact c⟩)
 have HST := Lib.hid hST
 have HLA0 : LA 0 = 0 := by rw [← hLA]; rfl
 clear hST hLA h2
 have hmm := @run_makeMap Tryz.prog
 have HM0 := Lib.hid (show m = ST 0 from hq0.symm)
 have HTK := Lib.hid (show ∀ (BM k : Nat) (W : World), TickP (tickP d) m BM k W ↔ ∃ g, MapG Tryz.prog 29 paiL okP W BM k g ∧ (∀ i, i < k → g (ST i) = some (.int .i64 (i : Int))) ∧ ∀ x, okP x → (∀ i, i < k → ST i ≠ x) → g x = none from fun BM k W => by unfold TickP; rw [HST.out])
 generalize TickP (tickP d) m = TP at *
 generalize hrp : Rep (tickP d) m = RP at *
 clear hq0 hm hd hrp HV
 go_enter Tryz.func42, Tryz.ntmps42
 go_wp2_with fail
 obtain ⟨Z, hZ⟩ : ∃ Z : Array Value, Z = #[.int .i64 0, .int .i64 0, .int .i64 0, .int .i64 0, .int .i64 0, .int .i64 0, .int .i64 0, .int .i64 0, .int .i64 0, .int .i64 0, .int .i64 0, .int .i64 0, .int .i64 0, .int .i64 0, .int .i64 0, .int .i64 0] := ⟨_, rfl⟩
 have hszZ : Z.size = 16 := by rw [hZ]; rfl
 rw [← hZ]
 obtain ⟨w3, hW3⟩ : ∃ w3, w3 = ((w.alloc (Obj.cells (PC m) 29)).alloc (Obj.cells Z 29)).alloc (Obj.map #[] 0) := ⟨_, rfl⟩
 rw [← hW3]
 obtain ⟨X3, hX3⟩ : ∃ X, X = w.heap.size := ⟨_, rfl⟩
 obtain ⟨X7, hX7⟩ : ∃ X, X = w.heap.size + 1 := ⟨_, rfl⟩
 obtain ⟨BM, hBM⟩ : ∃ X, X = w.heap.size + 1 + 1 := ⟨_, rfl⟩
 simp only [← hBM]
 simp only [← hX7]
 simp only [← hX3]
 have hb3 : Below w.heap.size w w3 := by rw [hW3]; (first|exact bwg|go_size)
 have k3 : BlkR w3 X3 (.cells (PC m) 29) := by
  show w3.heap[X3]? = _
  rw [hW3, hX3, Below.heap_alloc _ _ _ (by simp; omega), Below.heap_alloc _ _ _ (by simp)]
  exact heap_alloc_new _ _
 have k7 : BlkR w3 X7 (.cells Z 29) := by
  show w3.heap[X7]? = _
  rw [hW3, hX7, Below.heap_alloc _ _ _ (by simp)]
  have := heap_alloc_new (w.alloc (Obj.cells (PC m) 29)) (Obj.cells Z 29)
  simpa using this
 have hmk : TP BM 0 w3 := by
  rw [HTK.out]
  refine ⟨fun _ => none, ?_, fun i hi => absurd hi (Nat.not_lt_zero _), fun _ _ _ => rfl⟩
  have := MapG.made (P := Tryz.prog) (K := 29) (kl := paiL) (ok := okP) ((w.alloc (Obj.cells (PC m) 29)).alloc (Obj.cells Z 29))
  rw [← hW3] at this
  simpa [hBM] using this
 have k3' : BlkR w3 X3 (.cells (PC (ST 0)) 29) := by rw [← HM0.out]; exact k3
 have hwX : w.heap.size ≤ X3 := by omega
 have hwX7 : w.heap.size ≤ X7 := by omega
 have hwB : w.heap.size ≤ BM := by omega
 have n37 : X3 ≠ X7 := by omega
 have HZ := Lib.hid hZ
 have HSZ := Lib.hid hsz
 have HSQ := Lib.hid hszZ
 clear hW3 hX3 hX7 hBM k3 hmm hZ hszZ
 go_loopw [10, 11] (fun a b wr => ∃ k : Nat, a = .int .i64 ((LA k : Nat) : Int) ∧ b = .int .i64 (k : Int) ∧ Hid (∀ i j, i < j → j < k → ST i ≠ ST j) ∧ Hid (BlkR wr X3 (.cells (PC (ST k)) 29)) ∧ Hid (BlkR wr X7 (.cells Z 29)) ∧ Hid (TP BM k wr) ∧ Hid (Below w.heap.size w wr)) (fun _ b _ => 10500000 - (intOf b).toNat)
 case atStart => exact ⟨0, by rw [HLA0]; rfl, rfl, Lib.hid (fun i j _ h => absurd h (Nat.not_lt_zero _)), Lib.hid k3', Lib.hid k7, Lib.hid hmk, Lib.hid hb3⟩
 case round =>
  clear k3' k7 hmk hb3
  obtain ⟨k, rfl, rfl, HDI, K3, K7, HTM, HB⟩ := hrel
  obtain ⟨g, hg1, hg2, hg3⟩ := (HTK.out BM k wr).1 HTM.out
  have hk32 : k ≤ 10497600 := HBD.out k HDI.out
  have hlk := hg1.look_ok paiKeys Tryz.underlying133 (zeroInt wr) (HOK.out k)
  rw [HPV.out] at hlk
  have l3 := K3.out.lt
  have hLk : LA k ≤ k := HLE.out k
  by_cases hex : ∃ i, i < k ∧ ST i = ST k
  ·as_aux_lemma =>
   obtain ⟨fr, hfr, hfe⟩ := hex
   have hgk := hg2 fr hfr
   rw [hfe] at hgk
   rw [hgk] at hlk
   have HRX := Lib.hid (HREP.out k fr hfr hfe HDI.out)
   have l7 := K7.out.lt
   have HLX := Lib.hid (fun u => ldvar_later (P := Tryz.prog) (ty := 29) (B := wr.heap.size) (b0 := X7) K3.out l3 n37 Tryz.underlying29 rfl (by rw [HSZ.out (ST k)]; exact infoPair) u)
   have hd7 : wr.drew.heap[X7]? = some (.cells Z 29) := K7.out
   have HD7 := Lib.hid hd7
   have HY := Lib.hid (sameX_setRow (b0 := X7) (SameX.of_below (show Below wr.heap.size wr wr.drew by (first|exact bwg|go_size))) (PC (ST k)))
   have hw7 := setRow_heap wr.drew X7 Z (PC (ST k)) 29 (0, 0) hd7
   have HLR := Lib.hid (ldvar_cells (P := Tryz.prog) (ty := 29) (fun j _ => cell_of_row _ _ j _ _ _ hw7) Tryz.underlying29 rfl (by rw [HSZ.out (ST k)]; exact infoPair))
   have HBR := Lib.hid (below_setRow (show Below w.heap.size w wr.drew from HB.out.drew) hwX7 (PC (ST k)))
   have hS1 := Lib.hid (HON.out (ST k))
   obtain ⟨S, hS⟩ : ∃ S, S = PC (ST k) := ⟨_, rfl⟩
   have hSs : S.size = 16 := by rw [hS]; exact HSZ.out _
   have HSk := Lib.hid hS
   rw [← hS] at hlk HLX HY HLR HBR hS1
   clear hg1 hg2 hg3 hgk hfr hfe hd7 hS hw7
   simp only [Option.getD_some, Option.isSome_some] at hlk
   have HSs := Lib.hid hSs
   go_wp2_with (refine wpList_load_row rfl 29 _ rfl X3 rfl 29 S (0, 0) _ (by rw [HSk.out]; exact K3.out) Tryz.underlying29 rfl (by rw [HSs.out]; exact infoPair) ?_)
   refine wp_region_laterC (B := wr.heap.size) (b0 :=  X7) [(true, 0), (true, 1), (true, 2), (true, 3), (true, 4), (true, 5), (false, 6), (true, 7)] (by kernel_rfl) (by kernel_rfl) ?_; simp only [opsOf, List.filterMap_cons, List.filterMap_nil, List.getElem?_toArray, List.getElem?_cons_zero, List.getElem?_cons_succ, Option.map_some]
   repeat (first | (refine mixc_head ?_; refine wpQuiet_row rfl 29 _ rfl X3 rfl S (fun w' hw' => by obtain ⟨u, rfl⟩ := hw'; exact HLX.out u) ?_; refine wpQuiet_nil ?_; go_simp) | (refine mixc_head ?_; (show wpQuiet _ _ _ _ (_ :: _) _; go_big_quiet_step (fail)); refine wpQuiet_nil ?_))
   refine mixc_tail ?_
   refine wpList_store_row rfl 29 _ _ rfl X7 S rfl rfl 29 Z HD7.out (by rw [HSs.out]; exact infoPair) (by rw [HSs.out]; exact HSQ.out) (Array.all_eq_true_iff_forall_mem.2 (fun v hv => hS1.out v (by simpa using hv))) ?_
   refine tailC_stay HY.out ?_
   go_simp
   repeat (refine mixc_head ?_; (show wpQuiet _ _ _ _ (_ :: _) _; go_big_quiet_step (fail)); refine wpQuiet_nil ?_)
   refine mixc_nil ?_
   go_wp2
   have lr := HLR.out
   refine bodyPost_ret (v := .tuple #[.int .i64 ((LA k : Nat) : Int), .agg S, .bool (decide (LA k ≤ fr))]) (by simp [results, Tryz.results42, asAddr, lr]) rfl ⟨HBR.out, k, fr, HRX.out, by rw [HSk.out]⟩
  ·as_aux_lemma =>
   have hgn : g (ST k) = none := hg3 _ (HOK.out k) (fun i hi e => hex ⟨i, hi, e⟩)
   rw [hgn] at hlk
   obtain ⟨wU, hrunU, hmapU, hgrowU, hncU⟩ := hg1.store paiKeys Tryz.underlying133 (by unfold maxLen; omega) (HOK.out k) (.int .i64 (k : Int))
   rw [HPV.out] at hrunU
   have hkeep : ∀ (kk : Nat) (o : Obj), wr.heap[kk]? = some o → (∀ es c, o ≠ .map es c) → wU.heap[kk]? = some o := fun kk o hk ho => (hgrowU.block kk (Array.getElem?_eq_some_iff.1 hk).1 (by have := hg1.ne hk ho; simp only [ne_eq, Option.some.injEq]; exact this)).trans hk
   have K3U := Lib.hid (show BlkR wU X3 _ from hkeep X3 _ K3.out (fun _ _ h => by cases h))
   have K7U := Lib.hid (show BlkR wU X7 _ from hkeep X7 _ K7.out (fun _ _ h => by cases h))
   have HBU := Lib.hid (HB.out.grown hgrowU HB.out.size (fun kk hk => by simp only [Option.some.injEq] at hk; omega))
   have HTU := Lib.hid (show TP BM (k + 1) wU from by
    rw [HTK.out]
    refine ⟨_, hmapU, fun i hi => ?_, fun x hx hne => ?_⟩
    ·show (if ST i = ST k then _ else g (ST i)) = _
     rcases Nat.lt_or_ge i k with h | h
     ·rw [if_neg (fun e => hex ⟨i, h, e⟩)]; exact hg2 i h
     ·obtain rfl : i = k := by omega
      rw [if_pos rfl]
    ·show (if x = ST k then _ else g x) = _
     rw [if_neg (fun e => hne k (by omega) e.symm)]
     exact hg3 x hx (fun i hi => hne i (by omega)))
   have HDN := Lib.hid (show ∀ i j, i < j → j < k + 1 → ST i ≠ ST j from fun i j hij hj e => by
    rcases Nat.lt_or_ge j k with h | h
    ·exact HDI.out i j hij h e
    ·obtain rfl : j = k := by omega
     exact hex ⟨i, hij, e⟩)
   have l3U := K3U.out.lt
   have HNXk := Lib.hid (HNX.out k wU HBU.out)
   have HK3 := K3
   clear hg1 hg2 hg3 hgn hmapU hgrowU hncU hkeep hex K3 K7 HTM HB
   have w1 : IntKind.i64.wrap ((k : Int) + 1) = (k : Int) + 1 := by rw [IntKind.wrap_i64]; omega
   have HLK := Lib.hid (HLS.out k)
   have HMVV := Lib.hid (fun (W : World) => HMV.out (ST k) (ST (k + 1)) W)
   simp only [Option.getD_none, Option.isSome_none] at hlk
   go_wp2_with (first | (refine wpList_load_row rfl 29 _ rfl X3 rfl 29 _ (0, 0) _ HK3.out Tryz.underlying29 rfl (by rw [HSZ.out]; exact infoPair) ?_) | (refine wpList_load_row rfl 29 _ rfl X3 rfl 29 _ (0, 0) _ K3U.out Tryz.underlying29 rfl (by rw [HSZ.out]; exact infoPair) ?_))
   refine HNXk.out.mono ?_
   as_aux_lemma =>
   rintro e5 w5 ⟨rfl, hb5⟩
   have K3 := Lib.hid (K3U.out.below hb5)
   have K7 := Lib.hid (K7U.out.below hb5)
   have HB := bwt HBU hb5
   have HTM := Lib.hid (show TP BM (k + 1) w5 from by
    obtain ⟨g, q1, q2, q3⟩ := (HTK.out _ _ _).1 HTU.out
    exact (HTK.out _ _ _).2 ⟨g, q1.below hb5, q2, q3⟩)
   clear hb5 l3U hlk hrunU K3U K7U HBU HTU HNXk HK3
   obtain ⟨MB, hMB⟩ : ∃ MB, MB = ((ST k).ma.tap != (ST (k + 1)).ma.tap || (ST k).mb.tap != (ST (k + 1)).mb.tap) := ⟨_, rfl⟩
   rw [← hMB] at HMVV HLK
   have l3 := K3.out.lt
   clear hMB
   have st14 := strow_new (P := Tryz.prog) (w := w5) (c := #[.int .i64 0, .int .i64 0, .int .i64 0, .int .i64 0, .int .i64 0, .int .i64 0, .int .i64 0, .int .i64 0, .int .i64 0, .int .i64 0, .int .i64 0, .int .i64 0, .int .i64 0, .int .i64 0, .int .i64 0, .int .i64 0]) (c' := PC (ST (k + 1))) (t := 29) (by rw [HSZ.out]; rfl) (HON.out _)
   have HN6 := Lib.hid (show (w5.alloc (Obj.cells (PC (ST (k + 1))) 29)).heap[w5.heap.size]? = _ from heap_alloc_new _ _)
   have HK6 := Lib.hid (show BlkR (w5.alloc (Obj.cells (PC (ST (k + 1))) 29)) X3 _ from K3.out.below (show Below w5.heap.size w5 _ by (first|exact bwg|go_size)))
   go_wp2_with (first | (refine wpList_load_row rfl 29 _ rfl X3 rfl 29 _ (0, 0) _ HK6.out Tryz.underlying29 rfl (by rw [HSZ.out]; exact infoPair) ?_) | (refine wpList_load_row rfl 29 _ rfl w5.heap.size rfl 29 _ (0, 0) _ HN6.out Tryz.underlying29 rfl (by rw [HSZ.out]; exact infoPair) ?_))
   obtain ⟨w6, hW6⟩ : ∃ w6, w6 = w5.alloc (Obj.cells (PC (ST (k + 1))) 29) := ⟨_, rfl⟩
   rw [← hW6] at HN6 ⊢
   have hb6 : Below w5.heap.size w5 w6 := by rw [hW6]; (first|exact bwg|go_size)
   obtain ⟨X14, hX14⟩ : ∃ X, X = w5.heap.size := ⟨_, rfl⟩
   have k14 : BlkR w6 X14 (.cells (PC (ST (k + 1))) 29) := by rw [hX14]; exact HN6.out
   simp only [← hX14]
   refine (HMVV.out _).mono ?_
   rintro e7 w7 ⟨rfl, hb7⟩
   have hb67 := hb6.trans (hb7.mono hb6.size)
   have K14 := Lib.hid (k14.below hb7)
   have K3 := Lib.hid (K3.out.below hb67)
   have K7 := Lib.hid (K7.out.below hb67)
   have HB := bwt HB hb67
   have HTM := Lib.hid (show TP BM (k + 1) w7 from by
    obtain ⟨g, q1, q2, q3⟩ := (HTK.out _ _ _).1 HTM.out
    exact (HTK.out _ _ _).2 ⟨g, q1.below hb67, q2, q3⟩)
   clear l3 st14 HN6 HK6
   have l3 := K3.out.lt
   have l14 := K14.out.lt
   have st3 := strow (P := Tryz.prog) (c' := PC (ST (k + 1))) K3.out (by rw [HSZ.out, HSZ.out]) (HON.out _)
   clear hW6 hb6 hb7 hb67 k14 hX14
   cases MB
   all_goals
    go_wp2_with (refine wpList_load_row rfl 29 _ rfl X14 rfl 29 _ (0, 0) _ K14.out Tryz.underlying29 rfl (by rw [HSZ.out]; exact infoPair) ?_)
    go_roundw
    case rel =>
     refine ⟨k + 1, by rw [HLK.out]; simp, by go_num, HDN, Lib.hid (setRow_heap _ _ _ _ _ _ K3.out), Lib.hid ((setRow_other _ _ _ _ n37.symm).trans K7.out), Lib.hid ?_, Lib.hid (below_setRow HB.out hwX _)⟩
     obtain ⟨g, q1, q2, q3⟩ := (HTK.out _ _ _).1 HTM.out
     exact (HTK.out _ _ _).2 ⟨g, mapG_setRow q1 K3.out _, q2, q3⟩
    case measure => simp [intOf]; omega
set_option maxRecDepth 100000 in
theorem restP_any (m : Pai) (d : Int) (XD : Nat) (w : World) (hm : PaiV m) (hd : -10000 ≤ d ∧ d ≤ 10000) (h2 : BlkR w XD (.cells #[.int .i64 d] 3)) :
    Calls Tryz.prog 42 #[.agg #[.int .i64 m.a.tgt, .int .i64 m.a.band, .int .i64 m.a.dly, .int .i64 m.a.stp, .int .i64 m.a.lo, .int .i64 m.a.hi, .int .i64 m.b.tgt, .int .i64 m.b.band, .int .i64 m.b.dly, .int .i64 m.b.stp, .int .i64 m.b.lo, .int .i64 m.b.hi, .int .i64 m.ma.tap, .int .i64 m.ma.wait, .int .i64 m.mb.tap, .int .i64 m.mb.wait], .func (.func 40) #[] #[.pointer (some ⟨XD, 0, none⟩)], .func (.func 41) #[] #[]] w
     fun e' w' => Below w.heap.size w w' ∧ ∃ T fr, Rep (tickP d) m T fr ∧ e' = .returned (.tuple #[.int .i64 ((lastM (tickP d) (mvP d) m T : Nat) : Int), .agg #[.int .i64 (itr (tickP d) m T).a.tgt, .int .i64 (itr (tickP d) m T).a.band, .int .i64 (itr (tickP d) m T).a.dly, .int .i64 (itr (tickP d) m T).a.stp, .int .i64 (itr (tickP d) m T).a.lo, .int .i64 (itr (tickP d) m T).a.hi, .int .i64 (itr (tickP d) m T).b.tgt, .int .i64 (itr (tickP d) m T).b.band, .int .i64 (itr (tickP d) m T).b.dly, .int .i64 (itr (tickP d) m T).b.stp, .int .i64 (itr (tickP d) m T).b.lo, .int .i64 (itr (tickP d) m T).b.hi, .int .i64 (itr (tickP d) m T).ma.tap, .int .i64 (itr (tickP d) m T).ma.wait, .int .i64 (itr (tickP d) m T).mb.tap, .int .i64 (itr (tickP d) m T).mb.wait], .bool (decide (lastM (tickP d) (mvP d) m T ≤ fr))]) :=
 restR_any m d XD w hm hd h2
/- A machine, limits, a state and a load that are checked; the exported functions of currents. -/
def eleZ (m : Mac) (l : Lim) (s load : Int) : Int := firstErr [firstErr [(macE m).2, limE l], staE m.br.length s, loaE load]
def eleE (m : Mac) (l : Lim) (s load : Int) : Int := if eleZ m l s load ≠ 0 then eleZ m l s load else curE m s.toNat
theorem blk_put9 {w : World} {X t : Nat} {x0 x1 x2 x3 x4 x5 x6 x7 x8 : Value} (h : w.heap[X]? = some (.cells #[x0, x1, x2, x3, x4, x5, x6, x7, x8] t)) (v0 v1 v2 v3 v4 v5 v6 v7 v8 : Value) :
    (((((((((w.setCell ⟨X, 0, none⟩ v0).setCell ⟨X, 1, none⟩ v1).setCell ⟨X, 2, none⟩ v2).setCell ⟨X, 3, none⟩ v3).setCell ⟨X, 4, none⟩ v4).setCell ⟨X, 5, none⟩ v5).setCell ⟨X, 6, none⟩ v6).setCell ⟨X, 7, none⟩ v7).setCell ⟨X, 8, none⟩ v8).heap[X]? = some (.cells #[v0, v1, v2, v3, v4, v5, v6, v7, v8] t) := by
 have h0 : (w.setCell ⟨X, 0, none⟩ v0).heap[X]? = some (.cells #[v0, x1, x2, x3, x4, x5, x6, x7, x8] t) := by rw [blk_set h 0 v0]; rfl
 have h1 : ((w.setCell ⟨X, 0, none⟩ v0).setCell ⟨X, 1, none⟩ v1).heap[X]? = some (.cells #[v0, v1, x2, x3, x4, x5, x6, x7, x8] t) := by rw [blk_set h0 1 v1]; rfl
 have h2 : (((w.setCell ⟨X, 0, none⟩ v0).setCell ⟨X, 1, none⟩ v1).setCell ⟨X, 2, none⟩ v2).heap[X]? = some (.cells #[v0, v1, v2, x3, x4, x5, x6, x7, x8] t) := by rw [blk_set h1 2 v2]; rfl
 have h3 : ((((w.setCell ⟨X, 0, none⟩ v0).setCell ⟨X, 1, none⟩ v1).setCell ⟨X, 2, none⟩ v2).setCell ⟨X, 3, none⟩ v3).heap[X]? = some (.cells #[v0, v1, v2, v3, x4, x5, x6, x7, x8] t) := by rw [blk_set h2 3 v3]; rfl
 have h4 : (((((w.setCell ⟨X, 0, none⟩ v0).setCell ⟨X, 1, none⟩ v1).setCell ⟨X, 2, none⟩ v2).setCell ⟨X, 3, none⟩ v3).setCell ⟨X, 4, none⟩ v4).heap[X]? = some (.cells #[v0, v1, v2, v3, v4, x5, x6, x7, x8] t) := by rw [blk_set h3 4 v4]; rfl
 have h5 : ((((((w.setCell ⟨X, 0, none⟩ v0).setCell ⟨X, 1, none⟩ v1).setCell ⟨X, 2, none⟩ v2).setCell ⟨X, 3, none⟩ v3).setCell ⟨X, 4, none⟩ v4).setCell ⟨X, 5, none⟩ v5).heap[X]? = some (.cells #[v0, v1, v2, v3, v4, v5, x6, x7, x8] t) := by rw [blk_set h4 5 v5]; rfl
 have h6 : (((((((w.setCell ⟨X, 0, none⟩ v0).setCell ⟨X, 1, none⟩ v1).setCell ⟨X, 2, none⟩ v2).setCell ⟨X, 3, none⟩ v3).setCell ⟨X, 4, none⟩ v4).setCell ⟨X, 5, none⟩ v5).setCell ⟨X, 6, none⟩ v6).heap[X]? = some (.cells #[v0, v1, v2, v3, v4, v5, v6, x7, x8] t) := by rw [blk_set h5 6 v6]; rfl
 have h7 : ((((((((w.setCell ⟨X, 0, none⟩ v0).setCell ⟨X, 1, none⟩ v1).setCell ⟨X, 2, none⟩ v2).setCell ⟨X, 3, none⟩ v3).setCell ⟨X, 4, none⟩ v4).setCell ⟨X, 5, none⟩ v5).setCell ⟨X, 6, none⟩ v6).setCell ⟨X, 7, none⟩ v7).heap[X]? = some (.cells #[v0, v1, v2, v3, v4, v5, v6, v7, x8] t) := by rw [blk_set h6 7 v7]; rfl
 have h8 : (((((((((w.setCell ⟨X, 0, none⟩ v0).setCell ⟨X, 1, none⟩ v1).setCell ⟨X, 2, none⟩ v2).setCell ⟨X, 3, none⟩ v3).setCell ⟨X, 4, none⟩ v4).setCell ⟨X, 5, none⟩ v5).setCell ⟨X, 6, none⟩ v6).setCell ⟨X, 7, none⟩ v7).setCell ⟨X, 8, none⟩ v8).heap[X]? = some (.cells #[v0, v1, v2, v3, v4, v5, v6, v7, v8] t) := by rw [blk_set h7 8 v8]; rfl
 exact h8
theorem below_put9 {w0 w : World} {B X : Nat} (h : Below B w0 w) (hX : B ≤ X) (v0 v1 v2 v3 v4 v5 v6 v7 v8 : Value) :
    Below B w0 (((((((((w.setCell ⟨X, 0, none⟩ v0).setCell ⟨X, 1, none⟩ v1).setCell ⟨X, 2, none⟩ v2).setCell ⟨X, 3, none⟩ v3).setCell ⟨X, 4, none⟩ v4).setCell ⟨X, 5, none⟩ v5).setCell ⟨X, 6, none⟩ v6).setCell ⟨X, 7, none⟩ v7).setCell ⟨X, 8, none⟩ v8) :=
 ((((((((h.setCell hX _).setCell hX _).setCell hX _).setCell hX _).setCell hX _).setCell hX _).setCell hX _).setCell hX _).setCell hX _
theorem eleZ_zero {m : Mac} {l : Lim} {s load : Int} (h : eleZ m l s load = 0) : MacV m ∧ limE l = 0 ∧ (∃ n : Nat, s = (n : Int) ∧ n < 2 ^ m.br.length) ∧ -1000 ≤ load ∧ load ≤ 1000 := by
 unfold eleZ at h
 rw [firstErr_cons, firstErr_cons, firstErr_cons, firstErr_cons, firstErr_cons, staE_zero, loaE_zero] at h
 obtain ⟨⟨h1, h2, _⟩, h3, h4, _⟩ := h
 have hm := (macE_zero h1).2
 refine ⟨hm, h2, ⟨s.toNat, by omega, ?_⟩, h4⟩
 have : ((2 ^ m.br.length : Nat) : Int) = (2 : Int) ^ m.br.length := by push_cast; rfl
 omega
theorem ElV.of {m : Mac} {l : Lim} {n : Nat} {load : Int} (h : eleZ m l (n : Int) load = 0) (h0 : curE m n = 0) : ElV m l n load := by
 obtain ⟨hm, hl, ⟨k, hk, hk2⟩, hd⟩ := eleZ_zero h
 obtain rfl : n = k := by omega
 refine ⟨hm, (limE_zero.1 hl).1, hd, hk2, ?_⟩
 rintro rfl
 rw [curE_cases, if_pos rfl] at h0
 exact absurd h0 (by decide)
set_option maxHeartbeats 2000000 in
set_option maxRecDepth 100000 in
theorem electric_any (m : Mac) (l : Lim) (s load : Int) (ab ag : Option Addr) (nb cb ng cg : Nat) (w : World) (hb : BrR w ab nb m.br) (hg : GrR w ag ng m.gs) (h8 : nb ≤ 8) :
    Calls Tryz.prog 67 #[.agg #[.slice ab nb cb, .int .i64 m.st, .slice ag ng cg], .agg #[.int .i64 l.volt, .int .i64 l.lo, .int .i64 l.hi, .int .i64 l.circ, .int .i64 l.brk, .int .i64 l.ret], .int .i64 s, .int .i64 load] w
     fun e' w' => e' = .returned (.tuple #[.agg #[.slice ab nb cb, .int .i64 m.st, .slice ag ng cg, .int .i64 l.volt, .int .i64 l.lo, .int .i64 l.hi, .int .i64 l.circ, .int .i64 l.brk, .int .i64 l.ret], .int .i64 (eleE m l s load)]) ∧ Below w.heap.size w w' := by
 have HO := Lib.hid (fun (W : World) (hbw : Below w.heap.size w W) => open_any m l ab ag nb cb ng cg W (hb.below hbw) (hg.below hbw))
 have HST := Lib.hid (fun (W : World) => m_staE_any m.st nb cb ng cg ab ag s W h8)
 have HLO := Lib.hid (fun (W : World) => loadE_any load W)
 have HZ := Lib.hid (fun (h : eleZ m l s load = 0) => eleZ_zero h)
 have HCE := Lib.hid (fun (hm : MacV m) (n : Nat) (hn : n < 2 ^ nb) (W : World) (hbw : Below w.heap.size w W) => currentsErr_any m l n ab ag nb cb ng cg W hm (hb.below hbw) hn)
 have hE : eleZ m l s load = firstErr [firstErr [(macE m).2, limE l], staE nb s, loaE load] := by unfold eleZ; rw [hb.len]
 have hV : eleE m l s load = if eleZ m l s load ≠ 0 then eleZ m l s load else curE m s.toNat := rfl
 have HLB := Lib.hid hb.len
 obtain ⟨V, hVV⟩ : ∃ V, V = eleE m l s load := ⟨_, rfl⟩
 rw [← hVV] at hV ⊢
 generalize eleZ m l s load = E at *
 generalize firstErr [(macE m).2, limE l] = E1 at *
 generalize staE nb s = E2 at *
 generalize loaE load = E3 at *
 obtain ⟨vo, lo, hi, ci, br, re⟩ := l
 obtain ⟨st, hst⟩ : ∃ x, x = m.st := ⟨_, rfl⟩
 rw [← hst] at HO HST HCE ⊢
 simp only at HO HCE ⊢
 have HE := Lib.hid hE
 have HV := Lib.hid hV
 clear hb hg hst hE hV hVV h8
 go_enter Tryz.func67, Tryz.ntmps67
 go_wp2_with fail
 refine (HO.out _ (by (first|exact bwg|go_size))).mono ?_
 rintro e5 w5 ⟨rfl, hb5⟩
 have k8 : BlkR w5 (w.heap.size + 1 + 1) (.cells #[.slice none 0 0, .int .i64 0, .slice none 0 0, .int .i64 0, .int .i64 0, .int .i64 0, .int .i64 0, .int .i64 0, .int .i64 0] 100) := by
  show w5.heap[w.heap.size + 1 + 1]? = _
  rw [hb5.block _ (by simp)]
  have := heap_alloc_new ((w.alloc (Obj.cells #[.slice ab nb cb, .int .i64 st, .slice ag ng cg] 45)).alloc (Obj.cells #[.int .i64 vo, .int .i64 lo, .int .i64 hi, .int .i64 ci, .int .i64 br, .int .i64 re] 47)) (Obj.cells #[.slice none 0 0, .int .i64 0, .slice none 0 0, .int .i64 0, .int .i64 0, .int .i64 0, .int .i64 0, .int .i64 0, .int .i64 0] 100)
  simpa using this
 have HB5 := Lib.hid (show Below w.heap.size w w5 by (first|exact bwg|go_size))
 obtain ⟨X8, hX8⟩ : ∃ X, X = w.heap.size + 1 + 1 := ⟨_, rfl⟩
 rw [← hX8] at k8 ⊢
 have hx8 : w.heap.size ≤ X8 := by omega
 clear hb5 HO hX8
 go_wp2_with fail
 obtain ⟨w6, hW⟩ : ∃ w6, w6 = w5.alloc (Obj.cells #[.slice ab nb cb, .int .i64 st, .slice ag ng cg, .int .i64 vo, .int .i64 lo, .int .i64 hi, .int .i64 ci, .int .i64 br, .int .i64 re] 100) := ⟨_, rfl⟩
 rw [← hW]
 obtain ⟨X6, hX6⟩ : ∃ X, X = w5.heap.size := ⟨_, rfl⟩
 rw [← hX6]
 have hb6 : Below w5.heap.size w5 w6 := by rw [hW]; (first|exact bwg|go_size)
 have k6 : BlkR w6 X6 (.cells #[.slice ab nb cb, .int .i64 st, .slice ag ng cg, .int .i64 vo, .int .i64 lo, .int .i64 hi, .int .i64 ci, .int .i64 br, .int .i64 re] 100) := by show w6.heap[X6]? = _; rw [hW, hX6]; exact heap_alloc_new _ _
 have n86 : X8 ≠ X6 := by have := k8.lt; omega
 refine (HST.out _).mono ?_
 rintro e7 w7 ⟨rfl, hb7⟩
 have HB := Lib.hid (HB5.out.trans ((hb6.trans (hb7.mono hb6.size)).mono HB5.out.size))
 have K8 := Lib.hid ((k8.below hb6).below hb7)
 have K6 := Lib.hid (k6.below hb7)
 clear hW hX6 hb6 hb7 k6 k8 HB5 HST
 go_wp2_with fail
 refine (HLO.out _).mono ?_
 rintro e7 w7 ⟨rfl, rfl⟩
 go_wp2_with fail
 refine (t_first3 _ _ _ _ _ _ _ (by rfl) (by simp)).mono ?_
 rintro e8 w8 ⟨rfl, hw8⟩
 have hb8 : Below w7.heap.size w7 w8 := by rw [← hw8]; (first|exact bwg|go_size)
 have HB := bwt HB hb8
 have K8 := Lib.hid (K8.out.below hb8)
 have K6 := Lib.hid (K6.out.below hb8)
 clear hb8 hw8 HLO
 rw [← HE.out]
 obtain ⟨c6, c6_1, c6_2, c6_3, c6_4, c6_5, c6_6, c6_7, c6_8, l6⟩ := blkc9 K6.out
 by_cases h0 : E = 0
 ·subst h0
  obtain ⟨hm, _, ⟨n, rfl, hn⟩, _⟩ := HZ.out (by first | rfl | trivial)
  have HVN := Lib.hid (show V = curE m n by rw [HV.out, if_neg (by simp), Int.toNat_natCast])
  rw [HLB.out] at hn
  have HCN := Lib.hid (fun (W : World) (hbw : Below w8.heap.size w8 W) => HCE.out hm n hn W (HB.out.trans (hbw.mono HB.out.size)))
  generalize curE m n = CE at *
  clear hm hn HCE HV HZ
  go_wp2_with fail
  refine later_of_eq 4 (by kernel_rfl) (by kernel_rfl) ?_; simp only [List.take_succ_cons, List.take_zero, List.drop_succ_cons, List.drop_zero]; repeat go_big_quiet_step(with_reducible exact calls_later (HCN.out _ (Later.below _)))
  refine wpQuiet_nil ?_; intro w9 hb9
  have HB := bwt HB hb9
  have K8 := Lib.hid (K8.out.below hb9)
  clear hb9 c6 c6_1 c6_2 c6_3 c6_4 c6_5 c6_6 c6_7 c6_8 l6 K6
  have HKK := Lib.hid (show w9.heap[X8]? = _ from K8.out)
  obtain ⟨d8, d8_1, d8_2, d8_3, d8_4, d8_5, d8_6, d8_7, d8_8, _⟩ := blkc9 HKK.out
  have fz0 := blk_fz HKK.out 0
  have fz1 := blk_fz HKK.out 1
  have fz2 := blk_fz HKK.out 2
  have fz3 := blk_fz HKK.out 3
  have fz4 := blk_fz HKK.out 4
  have fz5 := blk_fz HKK.out 5
  have fz6 := blk_fz HKK.out 6
  have fz7 := blk_fz HKK.out 7
  have fz8 := blk_fz HKK.out 8
  have l8 := K8.out.lt
  go_wp2
  refine bodyPost_ret (v := .tuple #[.agg #[.slice ab nb cb, .int .i64 st, .slice ag ng cg, .int .i64 vo, .int .i64 lo, .int .i64 hi, .int .i64 ci, .int .i64 br, .int .i64 re], .int .i64 CE]) ?_ rfl ⟨by rw [HVN.out], below_put9 HB.out hx8 _ _ _ _ _ _ _ _ _⟩
  have kw := blk_put9 HKK.out (.slice ab nb cb) (.int .i64 st) (.slice ag ng cg) (.int .i64 vo) (.int .i64 lo) (.int .i64 hi) (.int .i64 ci) (.int .i64 br) (.int .i64 re)
  generalize World.setCell (World.setCell (World.setCell (World.setCell (World.setCell (World.setCell (World.setCell (World.setCell (World.setCell _ _ _) _ _) _ _) _ _) _ _) _ _) _ _) _ _) _ _ = wz at *
  obtain ⟨e8, e8_1, e8_2, e8_3, e8_4, e8_5, e8_6, e8_7, e8_8, _⟩ := blkc9 kw
  simp [results, Tryz.results67, go_sem, e8, e8_1, e8_2, e8_3, e8_4, e8_5, e8_6, e8_7, e8_8]
 ·have HVN := Lib.hid (show V = E by rw [HV.out, if_pos h0])
  have e1 := bne_iff_ne.2 h0
  clear h0 HCE HV HZ
  have HKK := Lib.hid (show w8.heap[X8]? = _ from K8.out)
  obtain ⟨d8, d8_1, d8_2, d8_3, d8_4, d8_5, d8_6, d8_7, d8_8, _⟩ := blkc9 HKK.out
  have fz0 := blk_fz HKK.out 0
  have fz1 := blk_fz HKK.out 1
  have fz2 := blk_fz HKK.out 2
  have fz3 := blk_fz HKK.out 3
  have fz4 := blk_fz HKK.out 4
  have fz5 := blk_fz HKK.out 5
  have fz6 := blk_fz HKK.out 6
  have fz7 := blk_fz HKK.out 7
  have fz8 := blk_fz HKK.out 8
  have l8 := K8.out.lt
  go_wp2
  refine bodyPost_ret (v := .tuple #[.agg #[.slice ab nb cb, .int .i64 st, .slice ag ng cg, .int .i64 vo, .int .i64 lo, .int .i64 hi, .int .i64 ci, .int .i64 br, .int .i64 re], .int .i64 E]) ?_ rfl ⟨by rw [HVN.out], below_put9 HB.out hx8 _ _ _ _ _ _ _ _ _⟩
  have kw := blk_put9 HKK.out (.slice ab nb cb) (.int .i64 st) (.slice ag ng cg) (.int .i64 vo) (.int .i64 lo) (.int .i64 hi) (.int .i64 ci) (.int .i64 br) (.int .i64 re)
  generalize World.setCell (World.setCell (World.setCell (World.setCell (World.setCell (World.setCell (World.setCell (World.setCell (World.setCell _ _ _) _ _) _ _) _ _) _ _) _ _) _ _) _ _) _ _ = wz at *
  obtain ⟨e8, e8_1, e8_2, e8_3, e8_4, e8_5, e8_6, e8_7, e8_8, _⟩ := blkc9 kw
  simp [results, Tryz.results67, go_sem, e8, e8_1, e8_2, e8_3, e8_4, e8_5, e8_6, e8_7, e8_8]
end Go.Proofs.YtdjinmieogpgcaaGreat
