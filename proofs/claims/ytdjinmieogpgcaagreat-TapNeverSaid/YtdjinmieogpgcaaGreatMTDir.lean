import Derived.Test.YtdjinmieogpgcaaGreatMRoundTr
/- The closed contacts without a resistance, by taps; the error of currents: the program. -/
namespace Go.Proofs.YtdjinmieogpgcaaGreat
open Go.RowKit Go.Shelf
set_option linter.unusedVariables false
set_option linter.unusedSimpArgs false
attribute [local go_sem] Oper.semAt_some
set_option maxHeartbeats 4000000 in
set_option maxRecDepth 100000 in
theorem direct_any (m : Mac) (l : Lim) (s : Nat) (ab ag : Option Addr) (nb cb ng cg : Nat) (w : World) (hm : MacV m) (hb : BrR w ab nb m.br) (hs : s < 2 ^ nb) :
    Calls Tryz.prog 122 #[.agg #[.slice ab nb cb, .int .i64 m.st, .slice ag ng cg, .int .i64 l.volt, .int .i64 l.lo, .int .i64 l.hi, .int .i64 l.circ, .int .i64 l.brk, .int .i64 l.ret], .int .i64 (s : Int)] w fun e' w' => e' = .returned (.agg #[.int .i64 (dirS m s 0 : Nat), .int .i64 (dirS m s 1 : Nat)]) ∧ Below w.heap.size w w' := by
 have hn6 : nb ≤ 6 := by rw [← hb.len]; exact hm.n1
 have hs64 : s < 64 := Nat.lt_of_lt_of_le hs (Nat.le_trans (Nat.pow_le_pow_right (by omega) hn6) (by decide))
 have HBT := Lib.hid (fun (i : Nat) (hi : i < 6) (h : s.testBit i = true) => bits_lt nb (by omega) s hs i hi h)
 have HBV := Lib.hid (fun (i : Nat) (hi : i < nb) => hm.br i (by rw [hb.len]; exact hi))
 have HBR := Lib.hid hb
 obtain ⟨vo, lo, hi, ci, br, re⟩ := l
 obtain ⟨st, hst⟩ : ∃ x, x = m.st := ⟨_, rfl⟩
 rw [← hst]
 clear hb hs hm hst
 simp only
 refine (callsIn_wide (n := 3)).1 ?_
 refine callsIn_of_wp_marks Tryz.func122 rfl trivial ?_ rfl
 simp only [Tryz.ntmps122, List.size_toArray, List.length_cons, List.length_nil, Nat.reduceAdd, Nat.reduceSub, Array.replicate_succ, Array.replicate_zero, List.push_toArray, List.append_toArray, List.nil_append, List.cons_append]
 refine (wpIn_wide (n := 3)).2 ?_
 go_wp2_with fail
 obtain ⟨wq, hWq⟩ : ∃ wq, wq = (w.alloc (Obj.cells #[.slice ab nb cb, .int .i64 st, .slice ag ng cg, .int .i64 vo, .int .i64 lo, .int .i64 hi, .int .i64 ci, .int .i64 br, .int .i64 re] 100)).alloc (Obj.cells #[.int .i64 0, .int .i64 0] 156) := ⟨_, rfl⟩
 rw [← hWq]
 have hbq : Below w.heap.size w wq := by rw [hWq]; (first|exact bwg|go_size)
 have k2 : wq.heap[w.heap.size]? = some (.cells #[.slice ab nb cb, .int .i64 st, .slice ag ng cg, .int .i64 vo, .int .i64 lo, .int .i64 hi, .int .i64 ci, .int .i64 br, .int .i64 re] 100) := by rw [hWq, Below.heap_alloc _ _ _ (by simp)]; exact heap_alloc_new _ _
 have k4 : wq.heap[w.heap.size + 1]? = some (.cells #[.int .i64 0, .int .i64 0] 156) := by
  rw [hWq]
  have := heap_alloc_new (w.alloc (Obj.cells #[.slice ab nb cb, .int .i64 st, .slice ag ng cg, .int .i64 vo, .int .i64 lo, .int .i64 hi, .int .i64 ci, .int .i64 br, .int .i64 re] 100)) (Obj.cells #[.int .i64 0, .int .i64 0] 156)
  simpa using this
 have hzq : wq.heap.size = w.heap.size + 1 + 1 := by rw [hWq]; simp
 obtain ⟨X2, hX2⟩ : ∃ X, X = w.heap.size := ⟨_, rfl⟩
 obtain ⟨X4, hX4⟩ : ∃ X, X = w.heap.size + 1 := ⟨_, rfl⟩
 obtain ⟨X8, hX8⟩ : ∃ X, X = w.heap.size + 1 + 1 := ⟨_, rfl⟩
 rw [← hX2] at k2
 rw [← hX4] at k4
 obtain ⟨w6, hW6⟩ : ∃ w6, w6 = wq.alloc (Obj.cells #[.int .i64 0, .int .i64 0] 156) := ⟨_, rfl⟩
 rw [← hW6]
 have hb6 : Below wq.heap.size wq w6 := by rw [hW6]; (first|exact bwg|go_size)
 have k8 : w6.heap[X8]? = some (.cells #[.int .i64 0, .int .i64 0] 156) := by rw [hW6, hX8, ← hzq]; exact heap_alloc_new _ _
 have hz6 : w6.heap.size = X8 + 1 := by rw [hW6]; simp; omega
 have n8 : wq.heap[X8]? = none := Array.getElem?_eq_none (by omega)
 have hw8 : w.heap.size ≤ X8 := by omega
 have hw4 : w.heap.size ≤ X4 := by omega
 have hS6 := (SameCells.refl wq).below hb6
 have hBw6 := hbq.trans (hb6.mono hbq.size)
 have hBRq := Lib.hid (HBR.out.below hbq)
 simp only [← hX8]
 simp only [← hX4]
 simp only [← hX2]
 have hX48 : X4 < X8 := by omega
 have hX28 : X2 < X8 := by omega
 clear hWq hW6 hX2 hX4 hX8 hzq HBR
 refine (wpIn_wide (n := 3)).1 ?_
 refine range_two (gf := 99) (fst := #[.int .i64 (s : Int)]) (lst := #[]) rfl cf_all ?_
 intro rec hst hpe hpa htm has hbo
 have hL1 : ((w6.alloc (.deferred (some []))).alloc (.loop rec)).heap[w6.heap.size + 1]? = some (.loop rec) := by
  have := World.alloc_heap_new (w6.alloc (.deferred (some []))) (.loop rec); rwa [World.size_alloc] at this
 have hK1 : ((w6.alloc (.deferred (some []))).alloc (.loop rec)).heap[w6.heap.size]? = some (.deferred (some [])) := (Below.heap_alloc _ _ _ (by simp)).trans (World.alloc_heap_new w6 _)
 have hb9 : Below w6.heap.size w6 ((w6.alloc (.deferred (some []))).alloc (.loop rec)) := by (first|exact bwg|go_size)
 have hz9 : ((w6.alloc (.deferred (some []))).alloc (.loop rec)).heap.size = w6.heap.size + 2 := by simp
 generalize (w6.alloc (.deferred (some []))).alloc (.loop rec) = w9 at *
 obtain ⟨lr, hlr⟩ : ∃ lr, lr = w6.heap.size + 1 := ⟨_, rfl⟩
 obtain ⟨D, hD⟩ : ∃ D, D = w6.heap.size := ⟨_, rfl⟩
 rw [← hlr] at hL1
 rw [← hD] at hK1
 simp only [← hlr]
 simp only [← hD]
 have x8D : X8 < D := by omega
 have dl : D < lr := by omega
 have hwD : w.heap.size ≤ D := by omega
 have hl9 : w9.heap.size = lr + 1 := by omega
 have hI9 : RInv lr D rec w wq w9 := ⟨hL1, hK1, hS6.below hb9, Nat.le_trans hb6.size hb9.size, hBw6.trans (hb9.mono hBw6.size)⟩
 have h8 := (hb9.block _ (Array.getElem?_eq_some_iff.1 k8).1).trans k8
 clear hL1 hK1 hb9 hlr hD hS6 k8 hz9 hb6 hz6 hBw6 hbq
 show CallsIn Fence.wide _ _ _ #[.int .i64 (s : Int), .func (.yield lr) #[] #[]] _ _
 refine (callsIn_wide.2 (all_calls s lr
  (fun L B => RInv lr D rec w wq B ∧ B.heap[X8]? = some (.cells #[.int .i64 (dirL m L 0 : Nat), .int .i64 (dirL m L 1 : Nat)] 156))
  (fun _ => False) w9 hs64 ?_ ⟨hI9, h8⟩)).mono ?_
 ·rintro i A hi hmb ⟨h1, h3⟩
  have hin := HBT.out i hi hmb
  obtain ⟨⟨t0, t1⟩, r0, r1⟩ := HBV.out i hin
  have hl0 : dirL m (cloU s i) 0 ≤ 6 := Nat.le_trans (dirL_le _ _ _) (Nat.le_trans (cloU_len s i) (by omega))
  have hl1 : dirL m (cloU s i) 1 ≤ 6 := Nat.le_trans (dirL_le _ _ _) (Nat.le_trans (cloU_len s i) (by omega))
  have HY0 := Lib.hid (fun (h : isDir m 0 i = true) => dirL_yes (L := cloU s i) h)
  have HY1 := Lib.hid (fun (h : isDir m 1 i = true) => dirL_yes (L := cloU s i) h)
  have HN0 := Lib.hid (fun (h : isDir m 0 i = false) => dirL_no (L := cloU s i) h)
  have HN1 := Lib.hid (fun (h : isDir m 1 i = false) => dirL_no (L := cloU s i) h)
  have HD0 := Lib.hid (show isDir m 0 i = ((bAt m.br i).res == 0 && (bAt m.br i).tap == 0) from rfl)
  have HD1 := Lib.hid (show isDir m 1 i = ((bAt m.br i).res == 0 && (bAt m.br i).tap == 1) from rfl)
  refine yield_two h1.1 hst hpe (by rw [hpa]; rfl) ?_
  obtain ⟨RB, hRB⟩ : ∃ RB : Loop, RB = { rec with state := .busy } := ⟨_, rfl⟩
  rw [← hRB]
  have HRB := Lib.hid hRB
  clear hRB
  rw [has, hbo, hpa, htm]
  clear has hbo hpa htm hst hpe
  gi_wp2
  have hjl := h1.1
  have hI := h1
  refine ⟨hjl, ?_⟩
  have hB1 : SameCells wq (A.putObj lr (.loop RB)) := hI.2.2.1.put hjl
  have hB2 : wq.heap.size ≤ (A.putObj lr (.loop RB)).heap.size := by rw [World.putObj_size]; exact hI.2.2.2.1
  have hB3 : Below w.heap.size w (A.putObj lr (.loop RB)) := hI.2.2.2.2.trans (belowK_b (w := w) (Nat.le_refl _) A lr _ _ (by omega) hjl rfl rfl)
  have hB4 : (A.putObj lr (.loop RB)).heap[lr]? = some (.loop RB) := World.putObj_heap_same (Array.getElem?_eq_some_iff.1 hjl).1
  have hB5 : (A.putObj lr (.loop RB)).heap[D]? = some (.deferred (some [])) := (World.putObj_heap_other (by omega)).trans hI.2.1
  have e8 : (A.putObj lr (.loop RB)).heap[X8]? = _ := (World.putObj_heap_other (show X8 ≠ lr by omega)).trans h3
  generalize A.putObj lr (.loop RB) = A1 at *
  clear hI hjl h1 h3
  have hnrm : ∀ (ac : Act) (W8 : World), W8.heap[lr]? = some (.loop RB) → W8.heap[D]? = some (.deferred (some [])) → SameCells wq W8 → wq.heap.size ≤ W8.heap.size → Below w.heap.size w W8 →
      W8.heap[X8]? = some (.cells #[.int .i64 (dirL m (cloU s i ++ [i]) 0 : Nat), .int .i64 (dirL m (cloU s i ++ [i]) 1 : Nat)] 156) →
      twoPost Tryz.prog lr rec (fun e B => (e = .returned (.bool true) ∧ (RInv lr D rec w wq B ∧ B.heap[X8]? = some (.cells #[.int .i64 (dirL m (cloU s i ++ [i]) 0 : Nat), .int .i64 (dirL m (cloU s i ++ [i]) 1 : Nat)] 156))) ∨ (e = .returned (.bool false) ∧ False)) .normal ac W8 := by
   rintro ac W8 g4 g5 g1 g2 g3 g8
   exact ⟨by rw [← HRB.out]; exact g4, .inl ⟨rfl, RInv.ready (A1 := A1) g1 g2 g3 g4 g5 (by omega), (World.putObj_heap_other (show X8 ≠ lr by omega)).trans g8⟩⟩
  have HNRM := Lib.hid hnrm
  have HF := Lib.hid (And.intro hB1 (And.intro hB2 (And.intro hB3 (And.intro hB4 (And.intro hB5 e8)))))
  have kx := hB1 _ _ _ _ k2
  have u0 := cell_of_row _ _ 0 _ _ _ kx
  simp only [List.getElem?_toArray, List.getElem?_cons_zero, List.getElem?_cons_succ] at u0
  have lx2 : X2 < A1.heap.size := (Array.getElem?_eq_some_iff.1 kx).1
  obtain ⟨bb, ob, rfl, hbb, hcc⟩ := BrR.addr (ER.same hBRq.out hB1 hB2 : BrR A1 ab nb m.br) (by omega)
  obtain ⟨c0, c1⟩ := hcc i hin
  have y0 := cell_of_row _ _ 0 _ _ _ e8
  have y1 := cell_of_row _ _ 1 _ _ _ e8
  have f0 := frozen_of_row _ _ 0 _ _ e8
  have f1 := frozen_of_row _ _ 1 _ _ e8
  simp only [List.getElem?_toArray, List.getElem?_cons_zero, List.getElem?_cons_succ] at y0 y1
  have l8 : X8 < A1.heap.size := (Array.getElem?_eq_some_iff.1 e8).1
  have llr : lr < A1.heap.size := (Array.getElem?_eq_some_iff.1 hB4).1
  have i0 : (0 : Int) ≤ (i : Int) := by omega
  have i1 : (i : Int) < (nb : Int) := by omega
  generalize (bAt m.br i).res = rr at *
  generalize (bAt m.br i).tap = tt at *
  generalize dirL m (cloU s i) 0 = N0 at *
  generalize dirL m (cloU s i) 1 = N1 at *
  clear hnrm hB1 hB2 hB3 hB4 hB5 e8 kx hcc
  have hbA : Below A1.heap.size A1 (A1.alloc (Obj.cells #[.int .i64 tt, .int .i64 rr] 126)) := by (first|exact bwg|go_size)
  have HBA := Lib.hid hbA
  clear hbA
  by_cases hr : rr = 0
  ·subst hr
   obtain rfl | rfl : tt = 0 ∨ tt = 1 := by omega
   ·have e0 := HY0.out (by rw [HD0.out]; rfl)
    have e1 := HN1.out (by rw [HD1.out]; rfl)
    have HE := Lib.hid (And.intro e0 e1)
    have w1 : IntKind.i64.wrap ((N0 : Int) + 1) = (N0 : Int) + 1 := by rw [IntKind.wrap_i64]; omega
    clear e0 e1 HY0 HY1 HN0 HN1 HD0 HD1
    gi_wp2
    obtain ⟨hB1, hB2, hB3, hB4, hB5, e8⟩ := HF.out
    obtain ⟨A2, hA2⟩ : ∃ A2, A2 = A1.setCell ⟨X8, 0, none⟩ (.int .i64 ((N0 : Int) + 1)) := ⟨_, rfl⟩
    rw [← hA2]
    have hz2 : A2.heap.size = A1.heap.size := by rw [hA2]; simp
    have hb2 : Below A2.heap.size A2 (A2.alloc (Obj.cells #[.int .i64 0, .int .i64 0] 126)) := by (first|exact bwg|go_size)
    have g4 : A2.heap[lr]? = some (.loop RB) := by rw [hA2]; exact (heap_set_neI (show lr ≠ X8 by omega)).trans hB4
    have g5 : A2.heap[D]? = some (.deferred (some [])) := by rw [hA2]; exact (heap_set_neI (show D ≠ X8 by omega)).trans hB5
    have g8 := blk_set e8 0 (.int .i64 ((N0 : Int) + 1))
    rw [← hA2] at g8
    have gs : SameCells wq A2 := by rw [hA2]; exact hB1.setI n8
    have gb : Below w.heap.size w A2 := by rw [hA2]; exact hB3.setCell hw8 _
    refine HNRM.out _ _ ((hb2.block _ (by omega)).trans g4) ((hb2.block _ (by omega)).trans g5) (gs.below hb2) (by have := hb2.size; omega) (gb.trans (hb2.mono gb.size)) ?_
    rw [HE.out.1, HE.out.2]
    exact (hb2.block _ (by omega)).trans g8
   ·have e0 := HN0.out (by rw [HD0.out]; rfl)
    have e1 := HY1.out (by rw [HD1.out]; rfl)
    have HE := Lib.hid (And.intro e0 e1)
    have w1 : IntKind.i64.wrap ((N1 : Int) + 1) = (N1 : Int) + 1 := by rw [IntKind.wrap_i64]; omega
    clear e0 e1 HY0 HY1 HN0 HN1 HD0 HD1
    gi_wp2
    obtain ⟨hB1, hB2, hB3, hB4, hB5, e8⟩ := HF.out
    obtain ⟨A2, hA2⟩ : ∃ A2, A2 = A1.setCell ⟨X8, 1, none⟩ (.int .i64 ((N1 : Int) + 1)) := ⟨_, rfl⟩
    rw [← hA2]
    have hz2 : A2.heap.size = A1.heap.size := by rw [hA2]; simp
    have hb2 : Below A2.heap.size A2 (A2.alloc (Obj.cells #[.int .i64 1, .int .i64 0] 126)) := by (first|exact bwg|go_size)
    have g4 : A2.heap[lr]? = some (.loop RB) := by rw [hA2]; exact (heap_set_neI (show lr ≠ X8 by omega)).trans hB4
    have g5 : A2.heap[D]? = some (.deferred (some [])) := by rw [hA2]; exact (heap_set_neI (show D ≠ X8 by omega)).trans hB5
    have g8 := blk_set e8 1 (.int .i64 ((N1 : Int) + 1))
    rw [← hA2] at g8
    have gs : SameCells wq A2 := by rw [hA2]; exact hB1.setI n8
    have gb : Below w.heap.size w A2 := by rw [hA2]; exact hB3.setCell hw8 _
    refine HNRM.out _ _ ((hb2.block _ (by omega)).trans g4) ((hb2.block _ (by omega)).trans g5) (gs.below hb2) (by have := hb2.size; omega) (gb.trans (hb2.mono gb.size)) ?_
    rw [HE.out.1, HE.out.2]
    exact (hb2.block _ (by omega)).trans g8
  ·have hr0 : (rr == 0) = false := by simpa using hr
   have e0 := HN0.out (by rw [HD0.out, hr0]; rfl)
   have e1 := HN1.out (by rw [HD1.out, hr0]; rfl)
   have HE := Lib.hid (And.intro e0 e1)
   clear e0 e1 HY0 HY1 HN0 HN1 HD0 HD1 hr
   gi_wp2
   obtain ⟨hB1, hB2, hB3, hB4, hB5, e8⟩ := HF.out
   have hbA := HBA.out
   refine HNRM.out _ _ ((hbA.block _ llr).trans hB4) ((hbA.block _ (by omega)).trans hB5) (hB1.below hbA) (Nat.le_trans hB2 hbA.size) (hB3.trans (hbA.mono hB3.size)) ?_
   rw [HE.out.1, HE.out.2]
   exact (hbA.block _ l8).trans e8
 ·rintro e W9 ⟨⟨v, rfl⟩, h⟩
  obtain ⟨h1, h3⟩ := h.resolve_right id
  refine ⟨⟨_, rfl⟩, .inl ⟨h1.1, ?_⟩⟩
  have hBw : Below w.heap.size w (W9.putObj lr (.loop { rec with state := .exhausted })) := h1.2.2.2.2.trans (belowK_b (w := w) (Nat.le_refl _) W9 lr _ _ (by omega) h1.1 rfl rfl)
  have g5 : (W9.putObj lr (.loop { rec with state := .exhausted })).heap[D]? = some (.deferred (some [])) := (World.putObj_heap_other (by omega)).trans h1.2.1
  have g8 : (W9.putObj lr (.loop { rec with state := .exhausted })).heap[X8]? = _ := (World.putObj_heap_other (show X8 ≠ lr by omega)).trans h3
  have hS := h1.2.2.1.put (r' := { rec with state := .exhausted }) h1.1
  generalize W9.putObj lr (.loop { rec with state := .exhausted }) = W2 at *
  have c0 := cell_of_row _ _ 0 _ _ _ g8
  have c1 := cell_of_row _ _ 1 _ _ _ g8
  simp only [List.getElem?_toArray, List.getElem?_cons_zero, List.getElem?_cons_succ] at c0 c1
  have kz := hS _ _ _ _ k4
  have z0 := cell_of_row _ _ 0 _ _ _ kz
  have z1 := cell_of_row _ _ 1 _ _ _ kz
  have v0 := frozen_of_row _ _ 0 _ _ kz
  have v1 := frozen_of_row _ _ 1 _ _ kz
  simp only [List.getElem?_toArray, List.getElem?_cons_zero, List.getElem?_cons_succ] at z0 z1
  have l8 : X8 < W2.heap.size := (Array.getElem?_eq_some_iff.1 g8).1
  have l4 : X4 < W2.heap.size := (Array.getElem?_eq_some_iff.1 kz).1
  have HBw := Lib.hid hBw
  have H5 := Lib.hid g5
  have HKZ := Lib.hid kz
  clear h h1 h3 hst hpe hpa htm has hbo hI9 h8 g8 hBw g5 hS kz
  go_wp2_with fail
  simp only [show ∀ t, dirL m (cloU s 6) t = dirS m s t from fun _ => rfl]
  obtain ⟨W3, hW3⟩ : ∃ W3, W3 = (W2.setCell ⟨X4, 0, none⟩ (.int .i64 (dirS m s 0 : Nat))).setCell ⟨X4, 1, none⟩ (.int .i64 (dirS m s 1 : Nat)) := ⟨_, rfl⟩
  rw [← hW3]
  have kw : W3.heap[X4]? = some (.cells #[.int .i64 (dirS m s 0 : Nat), .int .i64 (dirS m s 1 : Nat)] 156) := by rw [hW3]; exact blk_set (blk_set HKZ.out 0 _) 1 _
  have hb3 : Below w.heap.size w W3 := by rw [hW3]; exact Below.setCell (Below.setCell HBw.out hw4 _) hw4 _
  have h53 : W3.heap[D]? = some (.deferred (some [])) := by rw [hW3]; exact (heap_set_neI (by omega)).trans ((heap_set_neI (by omega)).trans H5.out)
  refine leaves_marks (B := w.heap.size) (w0 := w) [D] W3 (by simp) (fun E hE => by simp at hE; subst hE; exact ⟨hwD, h53⟩) hb3 (fun w' hs hb' => ⟨.agg #[.int .i64 (dirS m s 0 : Nat), .int .i64 (dirS m s 1 : Nat)], ?_, rfl, hb'⟩)
  have kv := hs _ _ _ _ kw
  obtain ⟨r0, r1, _⟩ := blkc2 kv
  simp [results, Tryz.results122, go_sem, r0, r1]
end Go.Proofs.YtdjinmieogpgcaaGreat
/- The error of currents: the program and the reference. -/
namespace Go.Proofs.YtdjinmieogpgcaaGreat
open Go.RowKit
set_option linter.unusedVariables false
set_option linter.unusedSimpArgs false
theorem natz (n : Nat) : (((n : Nat) : Int) == 0) = decide (n = 0) := by rw [Bool.eq_iff_iff]; simp
theorem curE_int (m : Mac) (s : Nat) : curE m s = firstErr [unl ((s : Int) != 0) 21, unl (((dirS m s 0 : Nat) : Int) == 0 || ((dirS m s 1 : Nat) : Int) == 0) 13, unl (decide (max ((dirS m s 0 : Nat) : Int) ((dirS m s 1 : Nat) : Int) ≤ 1)) 23] := by
 unfold curE
 rw [natz, natz]
 have e1 : ((s : Int) != 0) = decide (s ≠ 0) := by rw [Bool.eq_iff_iff]; simp
 have e2 : decide (max ((dirS m s 0 : Nat) : Int) ((dirS m s 1 : Nat) : Int) ≤ 1) = (decide (dirS m s 0 ≤ 1) && decide (dirS m s 1 ≤ 1)) := by
  rw [Bool.eq_iff_iff, Bool.and_eq_true, decide_eq_true_eq, decide_eq_true_eq, decide_eq_true_eq]; omega
 rw [e1, e2]
set_option maxHeartbeats 2000000 in
set_option maxRecDepth 100000 in
theorem currentsErr_any (m : Mac) (l : Lim) (s : Nat) (ab ag : Option Addr) (nb cb ng cg : Nat) (w : World) (hm : MacV m) (hb : BrR w ab nb m.br) (hs : s < 2 ^ nb) :
    Calls Tryz.prog 89 #[.agg #[.slice ab nb cb, .int .i64 m.st, .slice ag ng cg, .int .i64 l.volt, .int .i64 l.lo, .int .i64 l.hi, .int .i64 l.circ, .int .i64 l.brk, .int .i64 l.ret], .int .i64 (s : Int)] w fun e' w' => e' = .returned (.int .i64 (curE m s)) ∧ Below w.heap.size w w' := by
 have HD := Lib.hid (fun (W : World) (hbw : Below w.heap.size w W) => direct_any m l s ab ag nb cb ng cg W hm (hb.below hbw) hs)
 have HU := Lib.hid (fun (b : Bool) (e : Int) w' => t_unless_any b e w')
 obtain ⟨vo, lo, hi, ci, br, re⟩ := l
 simp only at HD ⊢
 obtain ⟨V, hV⟩ : ∃ V, V = curE m s := ⟨_, rfl⟩
 have hV2 := hV.trans (curE_int m s)
 rw [← hV]
 obtain ⟨st, hst⟩ : ∃ x, x = m.st := ⟨_, rfl⟩
 rw [← hst] at HD ⊢
 generalize dirS m s 0 = N0 at *
 generalize dirS m s 1 = N1 at *
 have HV := Lib.hid hV2
 clear hV hV2 hb hm hs hst
 go_enter Tryz.func89, Tryz.ntmps89
 go_wp2_with fail
 refine (HD.out _ (by (first|exact bwg|go_size))).mono ?_
 rintro e5 w5 ⟨rfl, hb5⟩
 have HB5 := Lib.hid (show Below w.heap.size w w5 by (first|exact bwg|go_size))
 clear hb5 HD
 obtain ⟨w8, hW⟩ : ∃ w8, w8 = w5.alloc (Obj.cells #[.int .i64 (N0 : Int), .int .i64 (N1 : Int)] 156) := ⟨_, rfl⟩
 have hb8 : Below w5.heap.size w5 w8 := by rw [hW]; (first|exact bwg|go_size)
 have k8 : w8.heap[w5.heap.size]? = some (.cells #[.int .i64 (N0 : Int), .int .i64 (N1 : Int)] 156) := by rw [hW]; exact heap_alloc_new _ _
 have HB8 := bwt HB5 hb8
 clear hb8
 go_wp2_with fail
 rw [← hW]
 obtain ⟨X5, hX5⟩ : ∃ X, X = w5.heap.size := ⟨_, rfl⟩
 rw [← hX5] at k8 ⊢
 obtain ⟨c0, c1, l8⟩ := blkc2 k8
 clear hW hX5 k8 HB5
 by_cases hx : (N0 : Int) < (N1 : Int)
 ·have hv := HV.out
  rw [show max (N0 : Int) (N1 : Int) = (N1 : Int) by omega] at hv
  have HV := Lib.hid hv
  clear hv
  cases h0 : ((N0 : Int) == 0)
  ·skip
   go_wp2_with fail
   refine later_of_eq 19 (by kernel_rfl) (by kernel_rfl) ?_; simp only [List.take_succ_cons, List.take_zero, List.drop_succ_cons, List.drop_zero]; repeat go_big_quiet_step (with_reducible exact calls_later_same (HU.out _ _ _))
   refine wpQuiet_nil ?_; intro w9 hb9
   have HB9 := bwt HB8 hb9
   clear hb9 c0 c1
   go_wp2_with fail
   refine (t_first3 _ _ _ _ _ _ _ (by rfl) (by simp)).mono ?_
   rintro e8 wv ⟨rfl, hwv⟩
   have HBv := Lib.hid (HB9.out.trans ((show Below w9.heap.size w9 wv by rw [← hwv]; (first|exact bwg|go_size)).mono HB9.out.size))
   clear hwv
   go_wp2
   go_ret
   exact ⟨ret_int (by rw [HV.out]; first | rfl | (rw [h0]; rfl) | simp [h0]), HBv.out⟩
  ·skip
   go_wp2_with fail
   refine later_of_eq 19 (by kernel_rfl) (by kernel_rfl) ?_; simp only [List.take_succ_cons, List.take_zero, List.drop_succ_cons, List.drop_zero]; repeat go_big_quiet_step (with_reducible exact calls_later_same (HU.out _ _ _))
   refine wpQuiet_nil ?_; intro w9 hb9
   have HB9 := bwt HB8 hb9
   clear hb9 c0 c1
   go_wp2_with fail
   refine (t_first3 _ _ _ _ _ _ _ (by rfl) (by simp)).mono ?_
   rintro e8 wv ⟨rfl, hwv⟩
   have HBv := Lib.hid (HB9.out.trans ((show Below w9.heap.size w9 wv by rw [← hwv]; (first|exact bwg|go_size)).mono HB9.out.size))
   clear hwv
   go_wp2
   go_ret
   exact ⟨ret_int (by rw [HV.out]; first | rfl | (rw [h0]; rfl) | simp [h0]), HBv.out⟩
 ·have hv := HV.out
  rw [show max (N0 : Int) (N1 : Int) = (N0 : Int) by omega] at hv
  have HV := Lib.hid hv
  clear hv
  cases h0 : ((N0 : Int) == 0)
  ·skip
   go_wp2_with fail
   refine later_of_eq 19 (by kernel_rfl) (by kernel_rfl) ?_; simp only [List.take_succ_cons, List.take_zero, List.drop_succ_cons, List.drop_zero]; repeat go_big_quiet_step (with_reducible exact calls_later_same (HU.out _ _ _))
   refine wpQuiet_nil ?_; intro w9 hb9
   have HB9 := bwt HB8 hb9
   clear hb9 c0 c1
   go_wp2_with fail
   refine (t_first3 _ _ _ _ _ _ _ (by rfl) (by simp)).mono ?_
   rintro e8 wv ⟨rfl, hwv⟩
   have HBv := Lib.hid (HB9.out.trans ((show Below w9.heap.size w9 wv by rw [← hwv]; (first|exact bwg|go_size)).mono HB9.out.size))
   clear hwv
   go_wp2
   go_ret
   exact ⟨ret_int (by rw [HV.out]; first | rfl | (rw [h0]; rfl) | simp [h0]), HBv.out⟩
  ·skip
   go_wp2_with fail
   refine later_of_eq 19 (by kernel_rfl) (by kernel_rfl) ?_; simp only [List.take_succ_cons, List.take_zero, List.drop_succ_cons, List.drop_zero]; repeat go_big_quiet_step (with_reducible exact calls_later_same (HU.out _ _ _))
   refine wpQuiet_nil ?_; intro w9 hb9
   have HB9 := bwt HB8 hb9
   clear hb9 c0 c1
   go_wp2_with fail
   refine (t_first3 _ _ _ _ _ _ _ (by rfl) (by simp)).mono ?_
   rintro e8 wv ⟨rfl, hwv⟩
   have HBv := Lib.hid (HB9.out.trans ((show Below w9.heap.size w9 wv by rw [← hwv]; (first|exact bwg|go_size)).mono HB9.out.size))
   clear hwv
   go_wp2
   go_ret
   exact ⟨ret_int (by rw [HV.out]; first | rfl | (rw [h0]; rfl) | simp [h0]), HBv.out⟩
theorem curE_cases (m : Mac) (s : Nat) : curE m s = if s = 0 then 21 else if 0 < dirS m s 0 ∧ 0 < dirS m s 1 then 13 else if 1 < dirS m s 0 ∨ 1 < dirS m s 1 then 23 else 0 := by
 unfold curE
 generalize dirS m s 0 = a
 generalize dirS m s 1 = b
 by_cases h : s = 0
 ·simp [h, unl, firstErr]
 ·rw [if_neg h, decide_eq_true (show s ≠ 0 from h)]
  by_cases h1 : 0 < a ∧ 0 < b
  ·rw [if_pos h1, decide_eq_false (show ¬ a = 0 by omega), decide_eq_false (show ¬ b = 0 by omega)]; rfl
  ·have e : (decide (a = 0) || decide (b = 0)) = true := by
     rw [Bool.or_eq_true, decide_eq_true_eq, decide_eq_true_eq]; omega
   rw [if_neg h1, e]
   by_cases h2 : 1 < a ∨ 1 < b
   ·have e2 : (decide (a ≤ 1) && decide (b ≤ 1)) = false := by
      rw [Bool.and_eq_false_iff, decide_eq_false_iff_not, decide_eq_false_iff_not]; omega
    rw [if_pos h2, e2]; rfl
   ·have e2 : (decide (a ≤ 1) && decide (b ≤ 1)) = true := by
      rw [Bool.and_eq_true, decide_eq_true_eq, decide_eq_true_eq]; omega
    rw [if_neg h2, e2]; rfl
/- The voltage of the output and currents, in plain words. -/
def volA (m : Mac) (l : Lim) (k : Nat) : Int := (bAt m.br k).tap * l.volt
def numL (m : Mac) (l : Lim) (load : Int) (L : List Nat) : Int := L.foldl (fun a k => a + volA m l k * (2520 / (bAt m.br k).res)) (-load * 2520)
def denL (m : Mac) (L : List Nat) : Int := L.foldl (fun a k => a + 2520 / (bAt m.br k).res) 0
theorem numL_snoc (m : Mac) (l : Lim) (load : Int) (L : List Nat) (k : Nat) : numL m l load (L ++ [k]) = numL m l load L + volA m l k * (2520 / (bAt m.br k).res) := by unfold numL; rw [List.foldl_append]; rfl
theorem denL_snoc (m : Mac) (L : List Nat) (k : Nat) : denL m (L ++ [k]) = denL m L + 2520 / (bAt m.br k).res := by unfold denL; rw [List.foldl_append]; rfl
def isRes (m : Mac) (k : Nat) : Bool := (bAt m.br k).res == 0
def outT (m : Mac) (l : Lim) (s : Nat) (load : Int) : Int × Int :=
 match (cloU s 6).find? (isRes m) with
 | some k => (volA m l k, 1)
 | none => low (numL m l load (cloU s 6)) (denL m (cloU s 6))
theorem div_res {r : Int} (h0 : 1 ≤ r) (h1 : r ≤ 10) : 252 ≤ 2520 / r ∧ 2520 / r ≤ 2520 := by
 have : r = 1 ∨ r = 2 ∨ r = 3 ∨ r = 4 ∨ r = 5 ∨ r = 6 ∨ r = 7 ∨ r = 8 ∨ r = 9 ∨ r = 10 := by omega
 rcases this with rfl | rfl | rfl | rfl | rfl | rfl | rfl | rfl | rfl | rfl <;> decide
theorem vol_bd {m : Mac} {l : Lim} {k : Nat} (hm : MacV m) (hl : 0 ≤ l.volt ∧ l.volt ≤ 1000) (hk : k < m.br.length) : 0 ≤ volA m l k ∧ volA m l k ≤ 1000 := by
 obtain ⟨⟨h0, h1⟩, _⟩ := hm.br k hk
 unfold volA
 obtain h | h : (bAt m.br k).tap = 0 ∨ (bAt m.br k).tap = 1 := by omega
 ·rw [h, Int.zero_mul]; omega
 ·rw [h, Int.one_mul]; exact hl
theorem snoc_ind {α : Type} {P : List α → Prop} (h0 : P []) (h1 : ∀ L k, P L → P (L ++ [k])) (L : List α) : P L := by
 have key : ∀ M : List α, P M.reverse := by
  intro M
  induction M with
  | nil => exact h0
  | cons x r ih => rw [List.reverse_cons]; exact h1 _ _ ih
 have := key L.reverse
 rwa [List.reverse_reverse] at this
theorem sums_bd {m : Mac} {l : Lim} {load : Int} (hm : MacV m) (hl : 0 ≤ l.volt ∧ l.volt ≤ 1000) (hd : -1000 ≤ load ∧ load ≤ 1000) : ∀ L : List Nat, (∀ k ∈ L, k < m.br.length ∧ (bAt m.br k).res ≠ 0) →
    (-2520000 ≤ numL m l load L ∧ numL m l load L ≤ 2520000 + L.length * 2520000) ∧ (L.length * 252 ≤ denL m L ∧ denL m L ≤ L.length * 2520) := by
 refine snoc_ind ?_ ?_
 ·intro _; unfold numL denL; simp only [List.foldl_nil, List.length_nil]; omega
 ·intro L k ih h
  obtain ⟨⟨a1, a2⟩, b1, b2⟩ := ih (fun j hj => h j (List.mem_append_left _ hj))
  obtain ⟨hk, hr⟩ := h k (by simp)
  obtain ⟨_, r0, r1⟩ := hm.br k hk
  obtain ⟨v0, v1⟩ := vol_bd hm hl hk
  obtain ⟨d0, d1⟩ := div_res (r := (bAt m.br k).res) (by omega) r1
  rw [numL_snoc, denL_snoc, List.length_append, List.length_singleton]
  generalize (bAt m.br k).res = r at *
  generalize volA m l k = v at *
  generalize 2520 / r = q at *
  have p0 : 0 ≤ v * q := Int.mul_nonneg v0 (by omega)
  have p1 : v * q ≤ 1000 * 2520 := Int.mul_le_mul v1 d1 (by omega) (by decide)
  push_cast
  omega
/- Quotients by their numerators and denominators, and how many digits these have. No program in sight. -/
theorem rat_num {x y : Int} (hy : 0 < y) : (Rat.divInt x y).num = x / (Int.gcd x y : Nat) := by
 rw [Rat.num_divInt, Int.sign_eq_one_of_pos hy, Int.one_mul, Int.gcd_comm]
theorem rat_den {x y : Int} (hy : 0 < y) : ((Rat.divInt x y).den : Int) = y / (Int.gcd x y : Nat) := by
 rw [Rat.den_divInt, if_neg (by omega), Int.gcd_comm, Int.natCast_ediv, Int.natAbs_of_nonneg (by omega)]
theorem gcd_le_y {x y : Int} (hy : 0 < y) : 0 < (Int.gcd x y : Int) ∧ (Int.gcd x y : Int) ≤ y := by
 have h1 : Int.gcd x y ∣ y.natAbs := Int.gcd_dvd_natAbs_right x y
 have h2 : Int.gcd x y ≠ 0 := by intro h; rw [Int.gcd_eq_zero_iff] at h; omega
 have h3 := Nat.le_of_dvd (by omega) h1
 omega
end Go.Proofs.YtdjinmieogpgcaaGreat
