import Derived.Test.YtdjinmieogpgcaaGreatMTDir
/- The voltage of the output: the program. -/
namespace Go.Proofs.YtdjinmieogpgcaaGreat
open Go.RowKit Go.Shelf
set_option linter.unusedVariables false
set_option linter.unusedSimpArgs false
attribute [local go_sem] Oper.semAt_some
set_option maxRecDepth 100000 in
theorem voltage_any (m : Mac) (l : Lim) (k : Nat) (ab ag : Option Addr) (nb cb ng cg : Nat) (w : World) (hm : MacV m) (hb : BrR w ab nb m.br) (hl : 0 ≤ l.volt ∧ l.volt ≤ 1000) (hk : k < nb) :
    Calls Tryz.prog 101 #[.agg #[.slice ab nb cb, .int .i64 m.st, .slice ag ng cg, .int .i64 l.volt, .int .i64 l.lo, .int .i64 l.hi, .int .i64 l.circ, .int .i64 l.brk, .int .i64 l.ret], .int .i64 (k : Int)] w fun e' w' => e' = .returned (.int .i64 (volA m l k)) ∧ Below w.heap.size w w' := by
 obtain ⟨v0, v1⟩ := vol_bd hm hl (show k < m.br.length by rw [hb.len]; exact hk)
 obtain ⟨bb, ob, rfl, hbb, hcc⟩ := hb.addr (by omega)
 obtain ⟨c0, c1⟩ := hcc k hk
 unfold volA at v0 v1 ⊢
 have w1 : IntKind.i64.wrap ((bAt m.br k).tap * l.volt) = (bAt m.br k).tap * l.volt := by rw [IntKind.wrap_i64]; omega
 have i0 : (0 : Int) ≤ (k : Int) := by omega
 have i1 : (k : Int) < (nb : Int) := by omega
 generalize (bAt m.br k).tap = t at *
 obtain ⟨st, hst⟩ : ∃ x, x = m.st := ⟨_, rfl⟩
 rw [← hst]
 obtain ⟨vo, lo, hi, ci, br, re⟩ := l
 simp only at v0 v1 w1 ⊢
 clear hb hcc hm hl hst c1 v0 v1
 go_enter Tryz.func101, Tryz.ntmps101
 go_wp2_with fail
 refine later_all (by kernel_rfl) (by kernel_rfl) ?_; repeat go_big_quiet_step(fail)
 refine wpQuiet_nil ?_; intro w5 hb5
 have HB5 := Lib.hid (show Below w.heap.size w w5 by (first|exact bwg|go_size))
 clear hb5
 go_wp2
 go_ret
 exact ⟨ret_int rfl, HB5.out⟩
theorem find_clo {p : Nat → Bool} {s i : Nat} (hb : s.testBit i = true) (hL : ∀ k ∈ cloU s i, p k = false) (hp : p i = true) : ∀ n, i < n → (cloU s n).find? p = some i
 | 0, h => absurd h (Nat.not_lt_zero _)
 | n + 1, h => by
  rcases Nat.lt_or_ge i n with h1 | h1
  ·have ih := find_clo hb hL hp n h1
   cases hn : s.testBit n
   ·rw [cloU_no hn]; exact ih
   ·rw [cloU_yes hn, List.find?_append, ih]; rfl
  ·obtain rfl : i = n := by omega
   have hnone : (cloU s i).find? p = none := List.find?_eq_none.2 (fun k hk => by rw [hL k hk]; decide)
   rw [cloU_yes hb, List.find?_append, hnone]
   simp [hp]
theorem outT_dir {m : Mac} {l : Lim} {s k : Nat} {load : Int} (h : (cloU s 6).find? (isRes m) = some k) : outT m l s load = (volA m l k, 1) := by unfold outT; rw [h]
theorem outT_low {m : Mac} {l : Lim} {s : Nat} {load : Int} (h : ∀ k ∈ cloU s 6, isRes m k = false) : outT m l s load = low (numL m l load (cloU s 6)) (denL m (cloU s 6)) := by
 unfold outT
 rw [List.find?_eq_none.2 (fun k hk => by rw [h k hk]; decide)]
theorem clo_ne : ∀ s < 64, s ≠ 0 → 0 < (cloU s 6).length := by decide +kernel
theorem clo_mem {s i k : Nat} (h : k ∈ cloU s i) : k < i ∧ s.testBit k = true := by
 unfold cloU at h
 rw [List.mem_filter, List.mem_range] at h
 exact h
set_option maxHeartbeats 4000000 in
set_option maxRecDepth 100000 in
theorem output_any (m : Mac) (l : Lim) (s : Nat) (load : Int) (ab ag : Option Addr) (nb cb ng cg : Nat) (w : World) (hm : MacV m) (hb : BrR w ab nb m.br) (hl : 0 ≤ l.volt ∧ l.volt ≤ 1000) (hd : -1000 ≤ load ∧ load ≤ 1000) (hs : s < 2 ^ nb) (hs0 : s ≠ 0) :
    Calls Tryz.prog 98 #[.agg #[.slice ab nb cb, .int .i64 m.st, .slice ag ng cg, .int .i64 l.volt, .int .i64 l.lo, .int .i64 l.hi, .int .i64 l.circ, .int .i64 l.brk, .int .i64 l.ret], .int .i64 (s : Int), .int .i64 load] w fun e' w' => e' = .returned (.agg #[.int .i64 (outT m l s load).1, .int .i64 (outT m l s load).2]) ∧ Below w.heap.size w w' := by
 have hlen := hb.len
 have hn6 : nb ≤ 6 := by rw [← hlen]; exact hm.n1
 have hs64 : s < 64 := Nat.lt_of_lt_of_le hs (Nat.le_trans (Nat.pow_le_pow_right (by omega) hn6) (by decide))
 have HBT := Lib.hid (fun (i : Nat) (hi : i < 6) (h : s.testBit i = true) => bits_lt nb (by omega) s hs i hi h)
 have HBV := Lib.hid (fun (i : Nat) (hi : i < nb) => hm.br i (by rw [hlen]; exact hi))
 have HBR := Lib.hid hb
 have HVO := Lib.hid (fun (i : Nat) (hi : i < nb) (W : World) (hbr : BrR W ab nb m.br) => voltage_any m l i ab ag nb cb ng cg W hm hbr hl hi)
 have HVB := Lib.hid (fun (i : Nat) (hi : i < nb) => vol_bd hm hl (show i < m.br.length by rw [hlen]; exact hi))
 have HSB := Lib.hid (fun (i : Nat) (hi : i ≤ 6) (h : ∀ k ∈ cloU s i, isRes m k = false) => sums_bd hm hl hd (cloU s i) (fun k hk => ⟨by rw [hlen]; exact HBT.out k (by have := (clo_mem hk).1; omega) (clo_mem hk).2, by
  have := h k hk
  unfold isRes at this
  simpa using this⟩))
 have HNE := Lib.hid (clo_ne s hs64 hs0)
 have w0 : IntKind.i64.wrap (-load) = -load := by rw [IntKind.wrap_i64]; omega
 have w1 : IntKind.i64.wrap (-load * 2520) = -load * 2520 := by rw [IntKind.wrap_i64]; omega
 have HN0 := Lib.hid (show numL m l load [] = -load * 2520 from rfl)
 obtain ⟨vo, lo, hi, ci, br, re⟩ := l
 obtain ⟨st, hst⟩ : ∃ x, x = m.st := ⟨_, rfl⟩
 rw [← hst] at HVO ⊢
 clear hb hs hm hst hlen hs0 hl
 simp only at HVO ⊢
 refine (callsIn_wide (n := 3)).1 ?_
 refine callsIn_of_wp_marks Tryz.func98 rfl trivial ?_ rfl
 simp only [Tryz.ntmps98, List.size_toArray, List.length_cons, List.length_nil, Nat.reduceAdd, Nat.reduceSub, Array.replicate_succ, Array.replicate_zero, List.push_toArray, List.append_toArray, List.nil_append, List.cons_append]
 refine (wpIn_wide (n := 3)).2 ?_
 go_wp2_with fail
 obtain ⟨wq, hWq⟩ : ∃ wq, wq = (w.alloc (Obj.cells #[.slice ab nb cb, .int .i64 st, .slice ag ng cg, .int .i64 vo, .int .i64 lo, .int .i64 hi, .int .i64 ci, .int .i64 br, .int .i64 re] 100)).alloc (Obj.cells #[.int .i64 0, .int .i64 0] 85) := ⟨_, rfl⟩
 rw [← hWq]
 have hbq : Below w.heap.size w wq := by rw [hWq]; (first|exact bwg|go_size)
 have k3 : wq.heap[w.heap.size]? = some (.cells #[.slice ab nb cb, .int .i64 st, .slice ag ng cg, .int .i64 vo, .int .i64 lo, .int .i64 hi, .int .i64 ci, .int .i64 br, .int .i64 re] 100) := by rw [hWq, Below.heap_alloc _ _ _ (by simp)]; exact heap_alloc_new _ _
 have k6 : wq.heap[w.heap.size + 1]? = some (.cells #[.int .i64 0, .int .i64 0] 85) := by
  rw [hWq]
  have := heap_alloc_new (w.alloc (Obj.cells #[.slice ab nb cb, .int .i64 st, .slice ag ng cg, .int .i64 vo, .int .i64 lo, .int .i64 hi, .int .i64 ci, .int .i64 br, .int .i64 re] 100)) (Obj.cells #[.int .i64 0, .int .i64 0] 85)
  simpa using this
 have hzq : wq.heap.size = w.heap.size + 1 + 1 := by rw [hWq]; simp
 obtain ⟨X3, hX3⟩ : ∃ X, X = w.heap.size := ⟨_, rfl⟩
 obtain ⟨X6, hX6⟩ : ∃ X, X = w.heap.size + 1 := ⟨_, rfl⟩
 obtain ⟨X7, hX7⟩ : ∃ X, X = w.heap.size + 1 + 1 := ⟨_, rfl⟩
 obtain ⟨X8, hX8⟩ : ∃ X, X = w.heap.size + 1 + 1 + 1 := ⟨_, rfl⟩
 rw [← hX3] at k3
 rw [← hX6] at k6
 obtain ⟨w6, hW6⟩ : ∃ w6, w6 = (wq.alloc (Obj.cells #[.int .i64 (-load * 2520)] 3)).alloc (Obj.cells #[.int .i64 0] 3) := ⟨_, rfl⟩
 rw [← hW6]
 have hb6 : Below wq.heap.size wq w6 := by rw [hW6]; (first|exact bwg|go_size)
 have k7 : w6.heap[X7]? = some (.cells #[.int .i64 (-load * 2520)] 3) := by
  rw [hW6, hX7, ← hzq, Below.heap_alloc _ _ _ (by simp)]; exact heap_alloc_new _ _
 have k8 : w6.heap[X8]? = some (.cells #[.int .i64 0] 3) := by
  rw [hW6]
  have := heap_alloc_new (wq.alloc (Obj.cells #[.int .i64 (-load * 2520)] 3)) (Obj.cells #[.int .i64 0] 3)
  rw [World.size_alloc, hzq, ← hX8] at this
  exact this
 have hz6 : w6.heap.size = X8 + 1 := by rw [hW6]; simp; omega
 have n7 : wq.heap[X7]? = none := Array.getElem?_eq_none (by omega)
 have n8 : wq.heap[X8]? = none := Array.getElem?_eq_none (by omega)
 have hw8 : w.heap.size ≤ X8 := by omega
 have hw7 : w.heap.size ≤ X7 := by omega
 have hw6 : w.heap.size ≤ X6 := by omega
 have hS6 := (SameCells.refl wq).below hb6
 have hBw6 := hbq.trans (hb6.mono hbq.size)
 have hBRq := Lib.hid (HBR.out.below hbq)
 simp only [← hX8]
 simp only [← hX7]
 simp only [← hX6]
 simp only [← hX3]
 have hX78 : X7 < X8 := by omega
 have hX67 : X6 < X7 := by omega
 have hX36 : X3 < X6 := by omega
 have hq7 : wq.heap.size = X7 := by omega
 have HQ7 := Lib.hid hq7
 have h7 : w6.heap[X7]? = some (.cells #[.int .i64 (numL m ⟨vo, lo, hi, ci, br, re⟩ load [])] 3) := by rw [HN0.out]; exact k7
 have h8 : w6.heap[X8]? = some (.cells #[.int .i64 (denL m [])] 3) := k8
 have l6 : X8 < w6.heap.size := by omega
 have kr6 := hS6 _ _ _ _ k6
 clear hWq hW6 hX3 hX6 hX7 hX8 hzq HBR k7 k8 hq7
 refine (wpIn_wide (n := 3)).1 ?_
 refine range_two (gf := 99) (fst := #[.int .i64 (s : Int)]) (lst := #[]) rfl cf_all ?_
 intro rec hst hpe hpa htm has hbo
 have hL1 : ((w6.alloc (.deferred (some []))).alloc (.loop rec)).heap[w6.heap.size + 1]? = some (.loop rec) := by
  have := World.alloc_heap_new (w6.alloc (.deferred (some []))) (.loop rec); rwa [World.size_alloc] at this
 have hK1 : ((w6.alloc (.deferred (some []))).alloc (.loop rec)).heap[w6.heap.size]? = some (.deferred (some [])) := (Below.heap_alloc _ _ _ (by simp)).trans (World.alloc_heap_new w6 _)
 have hb9 : Below w6.heap.size w6 ((w6.alloc (.deferred (some []))).alloc (.loop rec)) := by (first|exact bwg|go_size)
 have hz9 : ((w6.alloc (.deferred (some []))).alloc (.loop rec)).heap.size = w6.heap.size + 2 := by simp
 generalize (w6.alloc (.deferred (some []))).alloc (.loop rec) = w9 at *
 obtain ⟨lr, hlr⟩ : ∃ lr, lr = w6.heap.size + 1 := ⟨_, rfl⟩
 obtain ⟨D, hD⟩ : ∃ D, D = w6.heap.size := ⟨_, rfl⟩
 rw [← hlr] at hL1
 rw [← hD] at hK1
 simp only [← hlr]
 simp only [← hD]
 have x8D : X8 < D := by omega
 have dl : D < lr := by omega
 have hwD : w.heap.size ≤ D := by omega
 have hl9 : w9.heap.size = lr + 1 := by omega
 have hI9 : RInv lr D rec w wq w9 := ⟨hL1, hK1, hS6.below hb9, Nat.le_trans hb6.size hb9.size, hBw6.trans (hb9.mono hBw6.size)⟩
 have h7 := (hb9.block _ (by omega)).trans h7
 have h8 := (hb9.block _ (by omega)).trans h8
 have h6 := (hb9.block _ (by omega)).trans kr6
 clear hL1 hK1 hb9 hlr hD hS6 hz9 hb6 hz6 hBw6 hbq l6 kr6
 show CallsIn Fence.wide _ _ _ #[.int .i64 (s : Int), .func (.yield lr) #[] #[]] _ _
 obtain ⟨RD, hRD⟩ : ∃ RD : Loop, RD = { rec with state := .done, pending := some .ret } := ⟨_, rfl⟩
 have HRD := Lib.hid hRD
 clear hRD
 refine (callsIn_wide.2 (all_calls s lr
  (fun L B => RInv lr D rec w wq B ∧ B.heap[X7]? = some (.cells #[.int .i64 (numL m ⟨vo, lo, hi, ci, br, re⟩ load L)] 3) ∧ B.heap[X8]? = some (.cells #[.int .i64 (denL m L)] 3) ∧ ∀ k ∈ L, isRes m k = false)
  (fun B => B.heap[lr]? = some (.loop RD) ∧ B.heap[D]? = some (.deferred (some [])) ∧ Below w.heap.size w B ∧ ∃ k, B.heap[X6]? = some (.cells #[.int .i64 (volA m ⟨vo, lo, hi, ci, br, re⟩ k), .int .i64 1] 85) ∧ (cloU s 6).find? (isRes m) = some k) w9 hs64 ?_ ⟨hI9, h7, h8, fun k hk => absurd hk List.not_mem_nil⟩)).mono ?_
 ·rintro i A h6i hmb ⟨h1, h7, h8, h9⟩
  have hin := HBT.out i h6i hmb
  obtain ⟨⟨t0, t1⟩, r0, r1⟩ := HBV.out i hin
  obtain ⟨v0, v1⟩ := HVB.out i hin
  obtain ⟨⟨n0, n1⟩, d0, d1⟩ := HSB.out i (by omega) h9
  have hcl := cloU_len s i
  refine yield_two h1.1 hst hpe (by rw [hpa]; rfl) ?_
  obtain ⟨RB, hRB⟩ : ∃ RB : Loop, RB = { rec with state := .busy } := ⟨_, rfl⟩
  rw [← hRB]
  have HRB := Lib.hid hRB
  clear hRB
  rw [has, hbo, hpa, htm]
  clear has hbo hpa htm hst hpe
  gi_wp2
  have hjl := h1.1
  have hI := h1
  refine ⟨hjl, ?_⟩
  have hB1 : SameCells wq (A.putObj lr (.loop RB)) := hI.2.2.1.put hjl
  have hB2 : wq.heap.size ≤ (A.putObj lr (.loop RB)).heap.size := by rw [World.putObj_size]; exact hI.2.2.2.1
  have hB3 : Below w.heap.size w (A.putObj lr (.loop RB)) := hI.2.2.2.2.trans (belowK_b (w := w) (Nat.le_refl _) A lr _ _ (by omega) hjl rfl rfl)
  have hB4 : (A.putObj lr (.loop RB)).heap[lr]? = some (.loop RB) := World.putObj_heap_same (Array.getElem?_eq_some_iff.1 hjl).1
  have hB5 : (A.putObj lr (.loop RB)).heap[D]? = some (.deferred (some [])) := (World.putObj_heap_other (by omega)).trans hI.2.1
  have e7 : (A.putObj lr (.loop RB)).heap[X7]? = _ := (World.putObj_heap_other (show X7 ≠ lr by omega)).trans h7
  have e8 : (A.putObj lr (.loop RB)).heap[X8]? = _ := (World.putObj_heap_other (show X8 ≠ lr by omega)).trans h8
  generalize A.putObj lr (.loop RB) = A1 at *
  clear hI hjl h1 h7 h8
  have kx := hB1 _ _ _ _ k3
  have u0 := cell_of_row _ _ 0 _ _ _ kx
  have u1 := cell_of_row _ _ 1 _ _ _ kx
  have u2 := cell_of_row _ _ 2 _ _ _ kx
  have u3 := cell_of_row _ _ 3 _ _ _ kx
  have u4 := cell_of_row _ _ 4 _ _ _ kx
  have u5 := cell_of_row _ _ 5 _ _ _ kx
  have u6 := cell_of_row _ _ 6 _ _ _ kx
  have u7 := cell_of_row _ _ 7 _ _ _ kx
  have u8 := cell_of_row _ _ 8 _ _ _ kx
  simp only [List.getElem?_toArray, List.getElem?_cons_zero, List.getElem?_cons_succ] at u0 u1 u2 u3 u4 u5 u6 u7 u8
  have lx3 : X3 < A1.heap.size := (Array.getElem?_eq_some_iff.1 kx).1
  have hBR1 : BrR A1 ab nb m.br := ER.same hBRq.out hB1 hB2
  have HV1 := Lib.hid (fun (W : World) (hb : Below A1.heap.size A1 W) => HVO.out i hin W (hBR1.below hb))
  obtain ⟨bb, ob, rfl, hbb, hcc⟩ := BrR.addr hBR1 (by omega)
  obtain ⟨c0, c1⟩ := hcc i hin
  have y7 := cell_of_row _ _ 0 _ _ _ e7
  have y8 := cell_of_row _ _ 0 _ _ _ e8
  have f7 := frozen_of_row _ _ 0 _ _ e7
  have f8 := frozen_of_row _ _ 0 _ _ e8
  simp only [List.getElem?_toArray, List.getElem?_cons_zero, List.getElem?_cons_succ] at y7 y8
  have l7 : X7 < A1.heap.size := (Array.getElem?_eq_some_iff.1 e7).1
  have l8 : X8 < A1.heap.size := (Array.getElem?_eq_some_iff.1 e8).1
  have llr : lr < A1.heap.size := (Array.getElem?_eq_some_iff.1 hB4).1
  have i0 : (0 : Int) ≤ (i : Int) := by omega
  have i1 : (i : Int) < (nb : Int) := by omega
  have HNS := Lib.hid (numL_snoc m ⟨vo, lo, hi, ci, br, re⟩ load (cloU s i) i)
  have HDS := Lib.hid (denL_snoc m (cloU s i) i)
  have HIR := Lib.hid (show isRes m i = ((bAt m.br i).res == 0) from rfl)
  have HF := Lib.hid (And.intro hB1 (And.intro hB2 (And.intro hB3 (And.intro hB4 (And.intro hB5 (And.intro e7 e8))))))
  have H9 := Lib.hid h9
  have HDB := Lib.hid (fun (h : (bAt m.br i).res ≠ 0) => div_res (r := (bAt m.br i).res) (by omega) r1)
  generalize (bAt m.br i).res = rr at *
  generalize numL m ⟨vo, lo, hi, ci, br, re⟩ load (cloU s i) = NU at *
  generalize denL m (cloU s i) = DE at *
  generalize hVA : volA m ⟨vo, lo, hi, ci, br, re⟩ i = VA at *
  clear hB1 hB2 hB3 hB4 hB5 e7 e8 kx hcc h9 hBR1
  by_cases hr : rr = 0
  ·subst hr
   gi_wp2
   refine ⟨trivial, CallsIn.mono (callsIn_wide.2 (HV1.out _ (Below.refl _ _))) ?_⟩
   rintro e7 w7 ⟨rfl, hb7⟩
   have HB7 := Lib.hid hb7
   clear hb7 u0 u1 u2 u3 u4 u5 u6 u7 u8 y7 y8 f7 f8
   gi_wp2
   refine ⟨trivial, CallsIn.mono (callsIn_wide.2 (t_whole_any _ _)) ?_⟩
   rintro e10 w10 ⟨rfl, hb10⟩
   have hb1 := HB7.out.trans (hb10.mono HB7.out.size)
   have HB1 := Lib.hid hb1
   have e6 := (HF.out.1.below hb1) _ _ _ _ k6
   have y6 := cell_of_row _ _ 0 _ _ _ e6
   have y6' := cell_of_row _ _ 1 _ _ _ e6
   have f6 := frozen_of_row _ _ 0 _ _ e6
   have f6' := frozen_of_row _ _ 1 _ _ e6
   simp only [List.getElem?_toArray, List.getElem?_cons_zero, List.getElem?_cons_succ] at y6 y6'
   have l6 : X6 < w10.heap.size := (Array.getElem?_eq_some_iff.1 e6).1
   have E6 := Lib.hid e6
   clear e6 hb1 hb10 HB7
   gi_wp2
   obtain ⟨hB1, hB2, hB3, hB4, hB5, e7, e8⟩ := HF.out
   have hb1 := HB1.out
   have g4 : ((w10.setCell ⟨X6, 0, none⟩ (.int .i64 VA)).setCell ⟨X6, 1, none⟩ (.int .i64 1)).heap[lr]? = some (.loop RB) := (heap_set_neI (show lr ≠ X6 by omega)).trans ((heap_set_neI (show lr ≠ X6 by omega)).trans ((hb1.block _ llr).trans hB4))
   have g5 : ((w10.setCell ⟨X6, 0, none⟩ (.int .i64 VA)).setCell ⟨X6, 1, none⟩ (.int .i64 1)).heap[D]? = some (.deferred (some [])) := (heap_set_neI (show D ≠ X6 by omega)).trans ((heap_set_neI (show D ≠ X6 by omega)).trans ((hb1.block _ (by omega)).trans hB5))
   have g6 := blk_set (blk_set E6.out 0 (.int .i64 VA)) 1 (.int .i64 1)
   have gb : Below w.heap.size w ((w10.setCell ⟨X6, 0, none⟩ (.int .i64 VA)).setCell ⟨X6, 1, none⟩ (.int .i64 1)) := ((hB3.trans (hb1.mono hB3.size)).setCell hw6 _).setCell hw6 _
   generalize (w10.setCell ⟨X6, 0, none⟩ (.int .i64 VA)).setCell ⟨X6, 1, none⟩ (.int .i64 1) = WF at *
   refine ⟨by rw [← HRB.out]; exact g4, .inr ⟨rfl, by rw [← HRD.out]; exact World.putObj_heap_same (Array.getElem?_eq_some_iff.1 g4).1, (World.putObj_heap_other (by omega)).trans g5, gb.trans (belowK_b (w := w) (Nat.le_refl _) _ lr _ _ (by omega) g4 rfl rfl), i, ?_, find_clo hmb H9.out (by rw [HIR.out]; rfl) 6 h6i⟩⟩
   rw [hVA]
   exact (World.putObj_heap_other (show X6 ≠ lr by omega)).trans g6
  ·have hr0 : (rr == 0) = false := by simpa using hr
   obtain ⟨q0, q1⟩ := HDB.out hr
   have hq : Int.tdiv 2520 rr = 2520 / rr := Int.tdiv_eq_ediv_of_nonneg (by omega)
   have p0 : 0 ≤ VA * (2520 / rr) := Int.mul_nonneg v0 (by omega)
   have p1 : VA * (2520 / rr) ≤ 1000 * 2520 := Int.mul_le_mul v1 q1 (by omega) (by decide)
   generalize hQ : 2520 / rr = Q at *
   have w2 : IntKind.i64.wrap Q = Q := by rw [IntKind.wrap_i64]; omega
   have w3 : IntKind.i64.wrap (VA * Q) = VA * Q := by rw [IntKind.wrap_i64]; omega
   have w4 : IntKind.i64.wrap (NU + VA * Q) = NU + VA * Q := by rw [IntKind.wrap_i64]; omega
   have w5 : IntKind.i64.wrap (DE + Q) = DE + Q := by rw [IntKind.wrap_i64]; omega
   gi_wp2
   refine round_later_tail 8 (by kernel_rfl) rfl (by repeat (first | exact not_out_two | refine not_out_then ?_ | refine not_out_block ?_)) (by kernel_rfl) ?_; simp only [List.take_succ_cons, List.take_zero, List.drop_succ_cons, List.drop_zero]; repeat go_big_quiet_step (first | (with_reducible exact calls_later (HV1.out _ (Later.below _))))
   refine wpQuiet_nil ?_; intro w7 hb7
   have E7 := Lib.hid ((hb7.block _ l7).trans HF.out.2.2.2.2.2.1)
   have E8 := Lib.hid ((hb7.block _ l8).trans HF.out.2.2.2.2.2.2)
   have y7 := cell_of_row _ _ 0 _ _ _ E7.out
   have f7 := frozen_of_row _ _ 0 _ _ E7.out
   have y8 := cell_of_row _ _ 0 _ _ _ E8.out
   have f8 := frozen_of_row _ _ 0 _ _ E8.out
   simp only [List.getElem?_toArray, List.getElem?_cons_zero] at y7 y8
   have n78 : X7 ≠ X8 := by omega
   have n87 : X8 ≠ X7 := by omega
   have l7' : X7 < w7.heap.size := (Array.getElem?_eq_some_iff.1 E7.out).1
   have l8' : X8 < w7.heap.size := (Array.getElem?_eq_some_iff.1 E8.out).1
   have HB7 := Lib.hid hb7
   clear hb7
   go_wp2_with fail
   gi_wp2
   obtain ⟨hB1, hB2, hB3, hB4, hB5, _, _⟩ := HF.out
   have hb7 := HB7.out
   have g4 : (w7.setCell ⟨X7, 0, none⟩ (.int .i64 (NU + VA * Q))).heap[lr]? = some (.loop RB) := (heap_set_neI (show lr ≠ X7 by omega)).trans ((hb7.block _ llr).trans hB4)
   have g5 : (w7.setCell ⟨X7, 0, none⟩ (.int .i64 (NU + VA * Q))).heap[D]? = some (.deferred (some [])) := (heap_set_neI (show D ≠ X7 by omega)).trans ((hb7.block _ (by omega)).trans hB5)
   have g7 := blk_set E7.out 0 (.int .i64 (NU + VA * Q))
   have g8 : (w7.setCell ⟨X7, 0, none⟩ (.int .i64 (NU + VA * Q))).heap[X8]? = _ := (heap_set_neI n87).trans E8.out
   have gs : SameCells wq (w7.setCell ⟨X7, 0, none⟩ (.int .i64 (NU + VA * Q))) := (hB1.below hb7).setI n7
   have gz : wq.heap.size ≤ (w7.setCell ⟨X7, 0, none⟩ (.int .i64 (NU + VA * Q))).heap.size := by rw [World.size_setCell]; exact Nat.le_trans hB2 hb7.size
   have gb : Below w.heap.size w (w7.setCell ⟨X7, 0, none⟩ (.int .i64 (NU + VA * Q))) := (hB3.trans (hb7.mono hB3.size)).setCell hw7 _
   generalize w7.setCell ⟨X7, 0, none⟩ (.int .i64 (NU + VA * Q)) = A2 at *
   have HG := Lib.hid (And.intro g4 (And.intro g5 (And.intro g7 (And.intro g8 (And.intro gs (And.intro gz gb))))))
   have y8 := cell_of_row _ _ 0 _ _ _ g8
   have f8 := frozen_of_row _ _ 0 _ _ g8
   simp only [List.getElem?_toArray, List.getElem?_cons_zero] at y8
   have l8' : X8 < A2.heap.size := (Array.getElem?_eq_some_iff.1 g8).1
   have l7' : X7 < A2.heap.size := (Array.getElem?_eq_some_iff.1 g7).1
   have lr' : lr < A2.heap.size := (Array.getElem?_eq_some_iff.1 g4).1
   clear g4 g5 g7 g8 gs gz gb hB1 hB2 hB3 hB4 hB5 hb7 y7 f7 HB7 u0 u1 u2 u3 u4 u5 u6 u7 u8
   refine round_later_tail 4 (by kernel_rfl) rfl (by repeat (first | exact not_out_two | refine not_out_then ?_ | refine not_out_block ?_)) (by kernel_rfl) ?_; simp only [List.take_succ_cons, List.take_zero, List.drop_succ_cons, List.drop_zero]; repeat go_big_quiet_step (fail)
   refine wpQuiet_nil ?_; intro w8 hb8
   obtain ⟨g4, g5, g7, g8, gs, gz, gb⟩ := HG.out
   have q4 := (hb8.block _ lr').trans g4
   have q5 := (hb8.block _ (by omega)).trans g5
   have q7 := (hb8.block _ l7').trans g7
   have q8 := (hb8.block _ l8').trans g8
   have qs := gs.below hb8
   have qz := Nat.le_trans gz hb8.size
   have qb := gb.trans (hb8.mono gb.size)
   have HQ := Lib.hid (And.intro q4 (And.intro q5 (And.intro q7 (And.intro q8 (And.intro qs (And.intro qz qb))))))
   have y8 := cell_of_row _ _ 0 _ _ _ q8
   have f8 := frozen_of_row _ _ 0 _ _ q8
   simp only [List.getElem?_toArray, List.getElem?_cons_zero] at y8
   have l8'' : X8 < w8.heap.size := (Array.getElem?_eq_some_iff.1 q8).1
   clear g4 g5 g7 g8 gs gz gb q4 q5 q7 q8 qs qz qb hb8
   go_wp2_with fail
   gi_wp2
   obtain ⟨q4, q5, q7, q8, qs, qz, qb⟩ := HQ.out
   have g4 : (w8.setCell ⟨X8, 0, none⟩ (.int .i64 (DE + Q))).heap[lr]? = some (.loop RB) := (heap_set_neI (show lr ≠ X8 by omega)).trans q4
   have g5 : (w8.setCell ⟨X8, 0, none⟩ (.int .i64 (DE + Q))).heap[D]? = some (.deferred (some [])) := (heap_set_neI (show D ≠ X8 by omega)).trans q5
   have g7 : (w8.setCell ⟨X8, 0, none⟩ (.int .i64 (DE + Q))).heap[X7]? = _ := (heap_set_neI n78).trans q7
   have g8 := blk_set q8 0 (.int .i64 (DE + Q))
   refine ⟨by rw [← HRB.out]; exact g4, .inl ⟨rfl, RInv.ready (A1 := A1) (qs.setI n8) (by rw [World.size_setCell]; exact qz) (qb.setCell hw8 _) g4 g5 (by omega), ?_, ?_, ?_⟩⟩
   ·rw [HNS.out]
    exact (World.putObj_heap_other (show X7 ≠ lr by omega)).trans g7
   ·rw [HDS.out]
    exact (World.putObj_heap_other (show X8 ≠ lr by omega)).trans g8
   ·intro k hk
    rcases List.mem_append.1 hk with h | h
    ·exact H9.out k h
    ·rw [List.mem_singleton.1 h, HIR.out]; exact hr0
 ·rintro e W9 ⟨⟨v, rfl⟩, (⟨h1, h7, h8, h9⟩ | ⟨h1, h2, h3, k, h4, h5⟩)⟩
  ·refine ⟨⟨_, rfl⟩, .inl ⟨h1.1, ?_⟩⟩
   have hBw : Below w.heap.size w (W9.putObj lr (.loop { rec with state := .exhausted })) := h1.2.2.2.2.trans (belowK_b (w := w) (Nat.le_refl _) W9 lr _ _ (by omega) h1.1 rfl rfl)
   have g5 : (W9.putObj lr (.loop { rec with state := .exhausted })).heap[D]? = some (.deferred (some [])) := (World.putObj_heap_other (by omega)).trans h1.2.1
   have g7 : (W9.putObj lr (.loop { rec with state := .exhausted })).heap[X7]? = _ := (World.putObj_heap_other (show X7 ≠ lr by omega)).trans h7
   have g8 : (W9.putObj lr (.loop { rec with state := .exhausted })).heap[X8]? = _ := (World.putObj_heap_other (show X8 ≠ lr by omega)).trans h8
   have hS := h1.2.2.1.put (r' := { rec with state := .exhausted }) h1.1
   generalize W9.putObj lr (.loop { rec with state := .exhausted }) = W2 at *
   have y7 := cell_of_row _ _ 0 _ _ _ g7
   have y8 := cell_of_row _ _ 0 _ _ _ g8
   have e6 := hS _ _ _ _ k6
   simp only [List.getElem?_toArray, List.getElem?_cons_zero, List.getElem?_cons_succ] at y7 y8
   obtain ⟨⟨a0, a1⟩, b0, b1⟩ := HSB.out 6 (Nat.le_refl _) h9
   have hcl := cloU_len s 6
   have hne := HNE.out
   have HLW := Lib.hid (fun W => t_low_any (numL m ⟨vo, lo, hi, ci, br, re⟩ load (cloU s 6)) (denL m (cloU s 6)) W (by omega) (by omega) (by omega) (by omega))
   have HOT := Lib.hid (outT_low (m := m) (l := ⟨vo, lo, hi, ci, br, re⟩) (s := s) (load := load) h9)
   have l6 : X6 < W2.heap.size := (Array.getElem?_eq_some_iff.1 e6).1
   have HBw := Lib.hid hBw
   have H5 := Lib.hid g5
   have HE6 := Lib.hid e6
   have lD : D < W2.heap.size := (Array.getElem?_eq_some_iff.1 g5).1
   generalize numL m ⟨vo, lo, hi, ci, br, re⟩ load (cloU s 6) = NU at *
   generalize denL m (cloU s 6) = DE at *
   clear h1 h7 h8 h9 hst hpe hpa htm has hbo hI9 g7 g8 hBw g5 hS e6 a0 a1 b0 b1 hne hcl h6
   go_wp2_with fail
   refine (HLW.out _).mono ?_
   rintro e10 w10 ⟨rfl, hb10⟩
   have q6 := (hb10.block _ l6).trans HE6.out
   have q5 := (hb10.block _ lD).trans H5.out
   have y6 := cell_of_row _ _ 0 _ _ _ q6
   have y6' := cell_of_row _ _ 1 _ _ _ q6
   have f6 := frozen_of_row _ _ 0 _ _ q6
   have f6' := frozen_of_row _ _ 1 _ _ q6
   simp only [List.getElem?_toArray, List.getElem?_cons_zero, List.getElem?_cons_succ] at y6 y6'
   have l6' : X6 < w10.heap.size := (Array.getElem?_eq_some_iff.1 q6).1
   have HB10 := bwt HBw hb10
   have Q6 := Lib.hid q6
   have Q5 := Lib.hid q5
   clear q6 q5 hb10 y7 y8
   go_wp2_with fail
   obtain ⟨W3, hW3⟩ : ∃ W3, W3 = (w10.setCell ⟨X6, 0, none⟩ (.int .i64 (low NU DE).1)).setCell ⟨X6, 1, none⟩ (.int .i64 (low NU DE).2) := ⟨_, rfl⟩
   rw [← hW3]
   have kw : W3.heap[X6]? = some (.cells #[.int .i64 (low NU DE).1, .int .i64 (low NU DE).2] 85) := by rw [hW3]; exact blk_set (blk_set Q6.out 0 _) 1 _
   have hb3 : Below w.heap.size w W3 := by rw [hW3]; exact Below.setCell (Below.setCell HB10.out hw6 _) hw6 _
   have h53 : W3.heap[D]? = some (.deferred (some [])) := by rw [hW3]; exact (heap_set_neI (by omega)).trans ((heap_set_neI (by omega)).trans Q5.out)
   refine leaves_marks (B := w.heap.size) (w0 := w) [D] W3 (by simp) (fun E hE => by simp at hE; subst hE; exact ⟨hwD, h53⟩) hb3 (fun w' hs hb' => ⟨.agg #[.int .i64 (low NU DE).1, .int .i64 (low NU DE).2], ?_, by rw [HOT.out], hb'⟩)
   have kv := hs _ _ _ _ kw
   obtain ⟨r0, r1, _⟩ := blkc2 kv
   simp [results, Tryz.results98, go_sem, r0, r1]
  ·have hO := outT_dir (m := m) (l := ⟨vo, lo, hi, ci, br, re⟩) (load := load) h5
   refine ⟨⟨_, rfl⟩, .inr ⟨by rw [h1, HRD.out], ?_⟩⟩
   have g2 : (W9.putObj lr (.loop { rec with state := .exhausted, pending := some .ret })).heap[D]? = some (.deferred (some [])) := (World.putObj_heap_other (by omega)).trans h2
   have g6 : (W9.putObj lr (.loop { rec with state := .exhausted, pending := some .ret })).heap[X6]? = _ := (World.putObj_heap_other (show X6 ≠ lr by omega)).trans h4
   have hBw : Below w.heap.size w (W9.putObj lr (.loop { rec with state := .exhausted, pending := some .ret })) := h3.trans (belowK_b (w := w) (Nat.le_refl _) W9 lr _ _ (by omega) h1 rfl rfl)
   generalize W9.putObj lr (.loop { rec with state := .exhausted, pending := some .ret }) = W2 at *
   refine leaves_marks (B := w.heap.size) (w0 := w) [D] W2 (by simp) (fun E hE => by simp at hE; subst hE; exact ⟨hwD, g2⟩) hBw (fun w' hs hb' => ⟨.agg #[.int .i64 (volA m ⟨vo, lo, hi, ci, br, re⟩ k), .int .i64 1], ?_, by rw [hO], hb'⟩)
   have kv := hs _ _ _ _ g6
   obtain ⟨r0, r1, _⟩ := blkc2 kv
   simp [results, Tryz.results98, go_sem, r0, r1]
end Go.Proofs.YtdjinmieogpgcaaGreat
