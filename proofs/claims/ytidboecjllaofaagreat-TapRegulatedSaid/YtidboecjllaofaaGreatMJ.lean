import Derived.Test.YtidboecjllaofaaGreatME
/- All contacts of a set, in a range; the closed contacts without a resistance. -/
namespace Go.Proofs.YtidboecjllaofaaGreat
open Go.RowKit Go.Shelf
set_option linter.unusedVariables false
set_option linter.unusedSimpArgs false
attribute [local go_sem] Oper.semAt_some

/-- The closed contacts below i. -/
def cloU (s i : Nat) : List Nat := (List.range i).filter (fun k => s.testBit k)
theorem cloU_yes {s i : Nat} (h : s.testBit i = true) : cloU s (i + 1) = cloU s i ++ [i] := by unfold cloU; rw [List.range_succ, List.filter_append]; simp [h]
theorem cloU_no {s i : Nat} (h : s.testBit i = false) : cloU s (i + 1) = cloU s i := by unfold cloU; rw [List.range_succ, List.filter_append]; simp [h]
theorem cloU_len (s i : Nat) : (cloU s i).length ≤ i := by
  unfold cloU
  exact Nat.le_trans (List.length_filter_le _ _) (by simp)
theorem cf_all (args : Array Value) (w : World) : (callFunc 158 args).run Tryz.prog w = .ok (.enter 158 args) w := by kernel_rfl
set_option maxHeartbeats 2000000 in
set_option maxRecDepth 100000 in
theorem all_calls (s lr : Nat) (J : List Nat → World → Prop) (Jx : World → Prop) (W : World) (hs : s < 64)
    (hY : ∀ i A, i < 6 → s.testBit i = true → J (cloU s i) A → YieldAt Fence.wide 1 Tryz.prog lr #[.int .i64 (i : Int)] A (fun e B => (e = .returned (.bool true) ∧ J (cloU s i ++ [i]) B) ∨ (e = .returned (.bool false) ∧ Jx B)))
    (h0 : J [] W) :
    Calls Tryz.prog 158 #[.int .i64 (s : Int), .func (.yield lr) #[] #[]] W (fun e B => (∃ v, e = .returned v) ∧ (J (cloU s 6) B ∨ Jx B)) := by
  have HY := Lib.hid hY
  have HH := Lib.hid (fun (i : Nat) (hi : i < 6) w' => has_any s i w' hs (by omega))
  clear hY hs
  go_enter Tryz.func158, Tryz.ntmps158
  go_wp2_with fail
  go_loopw [5] (fun x wr => ∃ i : Nat, x = .int .i64 (i : Int) ∧ i ≤ 6 ∧ Hid (J (cloU s i) wr)) (fun x _ => 6 - (intOf x).toNat)
  case atStart => exact ⟨0, rfl, Nat.zero_le _, Lib.hid h0⟩
  case round =>
    obtain ⟨i, rfl, hi, hJi⟩ := hrel
    have i0 : (0 : Int) ≤ (i : Int) := by omega
    by_cases hlt : i < 6
    · have i1 : (i : Int) < 6 := by omega
      have HX := Lib.hid (HH.out i hlt)
      obtain ⟨mb, hmb⟩ : ∃ b, b = s.testBit i := ⟨_, rfl⟩
      rw [← hmb] at HX
      have HMB := Lib.hid hmb
      clear hmb
      cases mb
      · go_wp2_with fail
        refine (HX.out _).mono ?_
        rintro e5 w5 ⟨rfl, rfl⟩
        go_wp2_with fail
        go_roundw
        case rel => exact ⟨i + 1, by go_num, by omega, by rw [cloU_no HMB.out.symm]; exact hJi⟩
        case measure => simp [intOf]; omega
      · obtain ⟨fn, tmps, assign, body, hy, hR⟩ := HY.out i wr hlt HMB.out.symm hJi.out
        go_upto_region 3 with (fail)
        go_cut [16] from 7 to 16 (fun v21 wx => (v21 = .bool false ∧ J (cloU s i ++ [i]) wx) ∨ (v21 = .bool true ∧ Jx wx))
        case first =>
          refine (wpIn_wide (n := 2)).1 ?_
          gi_wp2
          refine ⟨trivial, CallsIn.mono (callsIn_wide.2 (HX.out _)) ?_⟩
          rintro e5 w5 ⟨rfl, rfl⟩
          gi_wp2
          refine hR.mono ?_
          rintro e W' (⟨rfl, hJ2⟩ | ⟨rfl, hJx⟩)
          · gi_wp2
            go_meet
            exact .inl ⟨rfl, hJ2⟩
          · gi_wp2
            go_meet
            exact .inr ⟨rfl, hJx⟩
        case rest =>
          rcases hcut with ⟨rfl, hJ2⟩ | ⟨rfl, hJ2⟩
          · have hJ2 := Lib.hid hJ2
            go_wp2
            go_roundw
            case rel => exact ⟨i + 1, by go_num, by omega, by rw [cloU_yes HMB.out.symm]; exact hJ2⟩
            case measure => simp [intOf]; omega
          · go_wp2
            refine bodyPost_ret (results_none rfl _ _ _) rfl ?_
            exact ⟨⟨_, rfl⟩, .inr hJ2⟩
    · obtain rfl : i = 6 := by omega
      have hJe := hJi.out
      clear hJi
      go_wp2
      go_end0
      exact ⟨⟨_, rfl⟩, .inl hJe⟩
theorem heap_set_neI {W : World} {b i k : Nat} {v : Value} (h : k ≠ b) : (W.setCell ⟨b, i, none⟩ v).heap[k]? = W.heap[k]? := by
  simp [World.setCell, Array.getElem?_modify, h.symm]
theorem SameCells.setI {w A : World} {b i : Nat} {v : Value} (h : SameCells w A) (hb : w.heap[b]? = none) : SameCells w (A.setCell ⟨b, i, none⟩ v) := fun k c t z hk => by
  rw [heap_set_neI (by rintro rfl; rw [hb] at hk; cases hk)]
  exact h k c t z hk
/-- A contact without a resistance at a tap; how many of a list. -/
def isDir (m : Mac) (t : Int) (k : Nat) : Bool := (bAt m.br k).res == 0 && (bAt m.br k).tap == t
def dirL (m : Mac) (L : List Nat) (t : Int) : Nat := (L.filter (isDir m t)).length
theorem dirL_yes {m : Mac} {L : List Nat} {t : Int} {k : Nat} (h : isDir m t k = true) : dirL m (L ++ [k]) t = dirL m L t + 1 := by unfold dirL; rw [List.filter_append]; simp [h]
theorem dirL_no {m : Mac} {L : List Nat} {t : Int} {k : Nat} (h : isDir m t k = false) : dirL m (L ++ [k]) t = dirL m L t := by unfold dirL; rw [List.filter_append]; simp [h]
theorem dirL_le (m : Mac) (L : List Nat) (t : Int) : dirL m L t ≤ L.length := List.length_filter_le _ _
/-- The error of currents in a state. -/
def dirS (m : Mac) (s : Nat) (t : Int) : Nat := dirL m (cloU s 6) t
def curE (m : Mac) (s : Nat) : Int := firstErr [unl (decide (s ≠ 0)) 21, unl (decide (dirS m s 0 = 0) || decide (dirS m s 1 = 0)) 13, unl (decide (dirS m s 0 ≤ 1) && decide (dirS m s 1 ≤ 1)) 23]
/-- The box of a changer. -/
def chV (m : Mac) (l : Lim) (ab ag : Option Addr) (nb cb ng cg : Nat) : Array Value := #[.slice ab nb cb, .int .i64 m.st, .slice ag ng cg, .int .i64 l.volt, .int .i64 l.lo, .int .i64 l.hi, .int .i64 l.circ, .int .i64 l.brk, .int .i64 l.ret]
theorem bits_lt : ∀ n < 7, ∀ s < 2 ^ n, ∀ i < 6, s.testBit i = true → i < n := by decide +kernel
end Go.Proofs.YtidboecjllaofaaGreat

/- The closed contacts without a resistance, by taps; the error of currents: the program. -/
namespace Go.Proofs.YtidboecjllaofaaGreat
open Go.RowKit Go.Shelf
set_option linter.unusedVariables false
set_option linter.unusedSimpArgs false
attribute [local go_sem] Oper.semAt_some

set_option maxHeartbeats 4000000 in
set_option maxRecDepth 100000 in
theorem direct_any (m : Mac) (l : Lim) (s : Nat) (ab ag : Option Addr) (nb cb ng cg : Nat) (w : World) (hm : MacV m) (hb : BrR w ab nb m.br) (hs : s < 2 ^ nb) :
    Calls Tryz.prog 180 #[.agg #[.slice ab nb cb, .int .i64 m.st, .slice ag ng cg, .int .i64 l.volt, .int .i64 l.lo, .int .i64 l.hi, .int .i64 l.circ, .int .i64 l.brk, .int .i64 l.ret], .int .i64 (s : Int)] w fun e' w' => e' = .returned (.agg #[.int .i64 (dirS m s 0 : Nat), .int .i64 (dirS m s 1 : Nat)]) ∧ Below w.heap.size w w' := by
  have hn6 : nb ≤ 6 := by rw [← hb.len]; exact hm.n1
  have hs64 : s < 64 := Nat.lt_of_lt_of_le hs (Nat.le_trans (Nat.pow_le_pow_right (by omega) hn6) (by decide))
  have HBT := Lib.hid (fun (i : Nat) (hi : i < 6) (h : s.testBit i = true) => bits_lt nb (by omega) s hs i hi h)
  have HBV := Lib.hid (fun (i : Nat) (hi : i < nb) => hm.br i (by rw [hb.len]; exact hi))
  have HBR := Lib.hid hb
  obtain ⟨vo, lo, hi, ci, br, re⟩ := l
  obtain ⟨st, hst⟩ : ∃ x, x = m.st := ⟨_, rfl⟩
  rw [← hst]
  clear hb hs hm hst
  simp only
  refine (callsIn_wide (n := 3)).1 ?_
  refine callsIn_of_wp_marks Tryz.func180 rfl trivial ?_ rfl
  simp only [Tryz.ntmps180, List.size_toArray, List.length_cons, List.length_nil, Nat.reduceAdd, Nat.reduceSub, Array.replicate_succ, Array.replicate_zero, List.push_toArray, List.append_toArray, List.nil_append, List.cons_append]
  refine (wpIn_wide (n := 3)).2 ?_
  go_wp2_with fail
  obtain ⟨wq, hWq⟩ : ∃ wq, wq = (w.alloc (Obj.cells #[.slice ab nb cb, .int .i64 st, .slice ag ng cg, .int .i64 vo, .int .i64 lo, .int .i64 hi, .int .i64 ci, .int .i64 br, .int .i64 re] 164)).alloc (Obj.cells #[.int .i64 0, .int .i64 0] 170) := ⟨_, rfl⟩
  rw [← hWq]
  have hbq : Below w.heap.size w wq := by rw [hWq]; (repeat' (first | (with_reducible exact Below.refl _ _) | (with_reducible assumption) | (with_reducible refine Below.drewN ?_ _) | (with_reducible refine Below.alloc ?_ ?_ _) | (with_reducible refine Below.drew ?_) | (with_reducible refine Below.setCell ?_ ?_ _) | (with_reducible refine Below.step (by assumption) ?_ ?_) | (with_reducible exact And.left (by assumption)) | go_size))
  have k2 : wq.heap[w.heap.size]? = some (.cells #[.slice ab nb cb, .int .i64 st, .slice ag ng cg, .int .i64 vo, .int .i64 lo, .int .i64 hi, .int .i64 ci, .int .i64 br, .int .i64 re] 164) := by rw [hWq, Below.heap_alloc _ _ _ (by simp)]; exact heap_alloc_new _ _
  have k4 : wq.heap[w.heap.size + 1]? = some (.cells #[.int .i64 0, .int .i64 0] 170) := by
    rw [hWq]
    have := heap_alloc_new (w.alloc (Obj.cells #[.slice ab nb cb, .int .i64 st, .slice ag ng cg, .int .i64 vo, .int .i64 lo, .int .i64 hi, .int .i64 ci, .int .i64 br, .int .i64 re] 164)) (Obj.cells #[.int .i64 0, .int .i64 0] 170)
    simpa using this
  have hzq : wq.heap.size = w.heap.size + 1 + 1 := by rw [hWq]; simp
  obtain ⟨X2, hX2⟩ : ∃ X, X = w.heap.size := ⟨_, rfl⟩
  obtain ⟨X4, hX4⟩ : ∃ X, X = w.heap.size + 1 := ⟨_, rfl⟩
  obtain ⟨X8, hX8⟩ : ∃ X, X = w.heap.size + 1 + 1 := ⟨_, rfl⟩
  rw [← hX2] at k2
  rw [← hX4] at k4
  obtain ⟨w6, hW6⟩ : ∃ w6, w6 = wq.alloc (Obj.cells #[.int .i64 0, .int .i64 0] 170) := ⟨_, rfl⟩
  rw [← hW6]
  have hb6 : Below wq.heap.size wq w6 := by rw [hW6]; (repeat' (first | (with_reducible exact Below.refl _ _) | (with_reducible assumption) | (with_reducible refine Below.drewN ?_ _) | (with_reducible refine Below.alloc ?_ ?_ _) | (with_reducible refine Below.drew ?_) | (with_reducible refine Below.setCell ?_ ?_ _) | (with_reducible refine Below.step (by assumption) ?_ ?_) | (with_reducible exact And.left (by assumption)) | go_size))
  have k8 : w6.heap[X8]? = some (.cells #[.int .i64 0, .int .i64 0] 170) := by rw [hW6, hX8, ← hzq]; exact heap_alloc_new _ _
  have hz6 : w6.heap.size = X8 + 1 := by rw [hW6]; simp; omega
  have n8 : wq.heap[X8]? = none := Array.getElem?_eq_none (by omega)
  have hw8 : w.heap.size ≤ X8 := by omega
  have hw4 : w.heap.size ≤ X4 := by omega
  have hS6 := (SameCells.refl wq).below hb6
  have hBw6 := hbq.trans (hb6.mono hbq.size)
  have hBRq := Lib.hid (HBR.out.below hbq)
  simp only [← hX8]
  simp only [← hX4]
  simp only [← hX2]
  have hX48 : X4 < X8 := by omega
  have hX28 : X2 < X8 := by omega
  clear hWq hW6 hX2 hX4 hX8 hzq HBR
  refine (wpIn_wide (n := 3)).1 ?_
  refine range_two (gf := 158) (fst := #[.int .i64 (s : Int)]) (lst := #[]) rfl cf_all ?_
  intro rec hst hpe hpa htm has hbo
  have hL1 : ((w6.alloc (.deferred (some []))).alloc (.loop rec)).heap[w6.heap.size + 1]? = some (.loop rec) := by
    have := World.alloc_heap_new (w6.alloc (.deferred (some []))) (.loop rec); rwa [World.size_alloc] at this
  have hK1 : ((w6.alloc (.deferred (some []))).alloc (.loop rec)).heap[w6.heap.size]? = some (.deferred (some [])) := (Below.heap_alloc _ _ _ (by simp)).trans (World.alloc_heap_new w6 _)
  have hb9 : Below w6.heap.size w6 ((w6.alloc (.deferred (some []))).alloc (.loop rec)) := by (repeat' (first | (with_reducible exact Below.refl _ _) | (with_reducible assumption) | (with_reducible refine Below.drewN ?_ _) | (with_reducible refine Below.alloc ?_ ?_ _) | (with_reducible refine Below.drew ?_) | (with_reducible refine Below.setCell ?_ ?_ _) | (with_reducible refine Below.step (by assumption) ?_ ?_) | (with_reducible exact And.left (by assumption)) | go_size))
  have hz9 : ((w6.alloc (.deferred (some []))).alloc (.loop rec)).heap.size = w6.heap.size + 2 := by simp
  generalize (w6.alloc (.deferred (some []))).alloc (.loop rec) = w9 at *
  obtain ⟨lr, hlr⟩ : ∃ lr, lr = w6.heap.size + 1 := ⟨_, rfl⟩
  obtain ⟨D, hD⟩ : ∃ D, D = w6.heap.size := ⟨_, rfl⟩
  rw [← hlr] at hL1
  rw [← hD] at hK1
  simp only [← hlr]
  simp only [← hD]
  have x8D : X8 < D := by omega
  have dl : D < lr := by omega
  have hwD : w.heap.size ≤ D := by omega
  have hl9 : w9.heap.size = lr + 1 := by omega
  have hI9 : RInv lr D rec w wq w9 := ⟨hL1, hK1, hS6.below hb9, Nat.le_trans hb6.size hb9.size, hBw6.trans (hb9.mono hBw6.size)⟩
  have h8 := (hb9.block _ (Array.getElem?_eq_some_iff.1 k8).1).trans k8
  clear hL1 hK1 hb9 hlr hD hS6 k8 hz9 hb6 hz6 hBw6 hbq
  show CallsIn Fence.wide _ _ _ #[.int .i64 (s : Int), .func (.yield lr) #[] #[]] _ _
  refine (callsIn_wide.2 (all_calls s lr
    (fun L B => RInv lr D rec w wq B ∧ B.heap[X8]? = some (.cells #[.int .i64 (dirL m L 0 : Nat), .int .i64 (dirL m L 1 : Nat)] 170))
    (fun _ => False) w9 hs64 ?_ ⟨hI9, h8⟩)).mono ?_
  · rintro i A hi hmb ⟨h1, h3⟩
    have hin := HBT.out i hi hmb
    obtain ⟨⟨t0, t1⟩, r0, r1⟩ := HBV.out i hin
    have hl0 : dirL m (cloU s i) 0 ≤ 6 := Nat.le_trans (dirL_le _ _ _) (Nat.le_trans (cloU_len s i) (by omega))
    have hl1 : dirL m (cloU s i) 1 ≤ 6 := Nat.le_trans (dirL_le _ _ _) (Nat.le_trans (cloU_len s i) (by omega))
    have HY0 := Lib.hid (fun (h : isDir m 0 i = true) => dirL_yes (L := cloU s i) h)
    have HY1 := Lib.hid (fun (h : isDir m 1 i = true) => dirL_yes (L := cloU s i) h)
    have HN0 := Lib.hid (fun (h : isDir m 0 i = false) => dirL_no (L := cloU s i) h)
    have HN1 := Lib.hid (fun (h : isDir m 1 i = false) => dirL_no (L := cloU s i) h)
    have HD0 := Lib.hid (show isDir m 0 i = ((bAt m.br i).res == 0 && (bAt m.br i).tap == 0) from rfl)
    have HD1 := Lib.hid (show isDir m 1 i = ((bAt m.br i).res == 0 && (bAt m.br i).tap == 1) from rfl)
    refine yield_two h1.1 hst hpe (by rw [hpa]; rfl) ?_
    obtain ⟨RB, hRB⟩ : ∃ RB : Loop, RB = { rec with state := .busy } := ⟨_, rfl⟩
    rw [← hRB]
    have HRB := Lib.hid hRB
    clear hRB
    rw [has, hbo, hpa, htm]
    clear has hbo hpa htm hst hpe
    gi_wp2
    have hjl := h1.1
    have hI := h1
    refine ⟨hjl, ?_⟩
    have hB1 : SameCells wq (A.putObj lr (.loop RB)) := hI.2.2.1.put hjl
    have hB2 : wq.heap.size ≤ (A.putObj lr (.loop RB)).heap.size := by rw [World.putObj_size]; exact hI.2.2.2.1
    have hB3 : Below w.heap.size w (A.putObj lr (.loop RB)) := hI.2.2.2.2.trans (belowK_b (w := w) (Nat.le_refl _) A lr _ _ (by omega) hjl rfl rfl)
    have hB4 : (A.putObj lr (.loop RB)).heap[lr]? = some (.loop RB) := World.putObj_heap_same (Array.getElem?_eq_some_iff.1 hjl).1
    have hB5 : (A.putObj lr (.loop RB)).heap[D]? = some (.deferred (some [])) := (World.putObj_heap_other (by omega)).trans hI.2.1
    have e8 : (A.putObj lr (.loop RB)).heap[X8]? = _ := (World.putObj_heap_other (show X8 ≠ lr by omega)).trans h3
    generalize A.putObj lr (.loop RB) = A1 at *
    clear hI hjl h1 h3
    have hnrm : ∀ (ac : Act) (W8 : World), W8.heap[lr]? = some (.loop RB) → W8.heap[D]? = some (.deferred (some [])) → SameCells wq W8 → wq.heap.size ≤ W8.heap.size → Below w.heap.size w W8 →
        W8.heap[X8]? = some (.cells #[.int .i64 (dirL m (cloU s i ++ [i]) 0 : Nat), .int .i64 (dirL m (cloU s i ++ [i]) 1 : Nat)] 170) →
        twoPost Tryz.prog lr rec (fun e B => (e = .returned (.bool true) ∧ (RInv lr D rec w wq B ∧ B.heap[X8]? = some (.cells #[.int .i64 (dirL m (cloU s i ++ [i]) 0 : Nat), .int .i64 (dirL m (cloU s i ++ [i]) 1 : Nat)] 170))) ∨ (e = .returned (.bool false) ∧ False)) .normal ac W8 := by
      rintro ac W8 g4 g5 g1 g2 g3 g8
      exact ⟨by rw [← HRB.out]; exact g4, .inl ⟨rfl, RInv.ready (A1 := A1) g1 g2 g3 g4 g5 (by omega), (World.putObj_heap_other (show X8 ≠ lr by omega)).trans g8⟩⟩
    have HNRM := Lib.hid hnrm
    have HF := Lib.hid (And.intro hB1 (And.intro hB2 (And.intro hB3 (And.intro hB4 (And.intro hB5 e8)))))
    have kx := hB1 _ _ _ _ k2
    have u0 := cell_of_row _ _ 0 _ _ _ kx
    simp only [List.getElem?_toArray, List.getElem?_cons_zero, List.getElem?_cons_succ] at u0
    have lx2 : X2 < A1.heap.size := (Array.getElem?_eq_some_iff.1 kx).1
    obtain ⟨bb, ob, rfl, hbb, hcc⟩ := BrR.addr (ER.same hBRq.out hB1 hB2 : BrR A1 ab nb m.br) (by omega)
    obtain ⟨c0, c1⟩ := hcc i hin
    have y0 := cell_of_row _ _ 0 _ _ _ e8
    have y1 := cell_of_row _ _ 1 _ _ _ e8
    have f0 := frozen_of_row _ _ 0 _ _ e8
    have f1 := frozen_of_row _ _ 1 _ _ e8
    simp only [List.getElem?_toArray, List.getElem?_cons_zero, List.getElem?_cons_succ] at y0 y1
    have l8 : X8 < A1.heap.size := (Array.getElem?_eq_some_iff.1 e8).1
    have llr : lr < A1.heap.size := (Array.getElem?_eq_some_iff.1 hB4).1
    have i0 : (0 : Int) ≤ (i : Int) := by omega
    have i1 : (i : Int) < (nb : Int) := by omega
    generalize (bAt m.br i).res = rr at *
    generalize (bAt m.br i).tap = tt at *
    generalize dirL m (cloU s i) 0 = N0 at *
    generalize dirL m (cloU s i) 1 = N1 at *
    clear hnrm hB1 hB2 hB3 hB4 hB5 e8 kx hcc
    have hbA : Below A1.heap.size A1 (A1.alloc (Obj.cells #[.int .i64 tt, .int .i64 rr] 73)) := by (repeat' (first | (with_reducible exact Below.refl _ _) | (with_reducible assumption) | (with_reducible refine Below.drewN ?_ _) | (with_reducible refine Below.alloc ?_ ?_ _) | (with_reducible refine Below.drew ?_) | (with_reducible refine Below.setCell ?_ ?_ _) | (with_reducible refine Below.step (by assumption) ?_ ?_) | (with_reducible exact And.left (by assumption)) | go_size))
    have HBA := Lib.hid hbA
    clear hbA
    by_cases hr : rr = 0
    · subst hr
      obtain rfl | rfl : tt = 0 ∨ tt = 1 := by omega
      · have e0 := HY0.out (by rw [HD0.out]; rfl)
        have e1 := HN1.out (by rw [HD1.out]; rfl)
        have HE := Lib.hid (And.intro e0 e1)
        have w1 : IntKind.i64.wrap ((N0 : Int) + 1) = (N0 : Int) + 1 := by rw [IntKind.wrap_i64]; omega
        clear e0 e1 HY0 HY1 HN0 HN1 HD0 HD1
        gi_wp2
        obtain ⟨hB1, hB2, hB3, hB4, hB5, e8⟩ := HF.out
        obtain ⟨A2, hA2⟩ : ∃ A2, A2 = A1.setCell ⟨X8, 0, none⟩ (.int .i64 ((N0 : Int) + 1)) := ⟨_, rfl⟩
        rw [← hA2]
        have hz2 : A2.heap.size = A1.heap.size := by rw [hA2]; simp
        have hb2 : Below A2.heap.size A2 (A2.alloc (Obj.cells #[.int .i64 0, .int .i64 0] 73)) := by (repeat' (first | (with_reducible exact Below.refl _ _) | (with_reducible assumption) | (with_reducible refine Below.drewN ?_ _) | (with_reducible refine Below.alloc ?_ ?_ _) | (with_reducible refine Below.drew ?_) | (with_reducible refine Below.setCell ?_ ?_ _) | (with_reducible refine Below.step (by assumption) ?_ ?_) | (with_reducible exact And.left (by assumption)) | go_size))
        have g4 : A2.heap[lr]? = some (.loop RB) := by rw [hA2]; exact (heap_set_neI (show lr ≠ X8 by omega)).trans hB4
        have g5 : A2.heap[D]? = some (.deferred (some [])) := by rw [hA2]; exact (heap_set_neI (show D ≠ X8 by omega)).trans hB5
        have g8 := blk_set e8 0 (.int .i64 ((N0 : Int) + 1))
        rw [← hA2] at g8
        have gs : SameCells wq A2 := by rw [hA2]; exact hB1.setI n8
        have gb : Below w.heap.size w A2 := by rw [hA2]; exact hB3.setCell hw8 _
        refine HNRM.out _ _ ((hb2.block _ (by omega)).trans g4) ((hb2.block _ (by omega)).trans g5) (gs.below hb2) (by have := hb2.size; omega) (gb.trans (hb2.mono gb.size)) ?_
        rw [HE.out.1, HE.out.2]
        exact (hb2.block _ (by omega)).trans g8
      · have e0 := HN0.out (by rw [HD0.out]; rfl)
        have e1 := HY1.out (by rw [HD1.out]; rfl)
        have HE := Lib.hid (And.intro e0 e1)
        have w1 : IntKind.i64.wrap ((N1 : Int) + 1) = (N1 : Int) + 1 := by rw [IntKind.wrap_i64]; omega
        clear e0 e1 HY0 HY1 HN0 HN1 HD0 HD1
        gi_wp2
        obtain ⟨hB1, hB2, hB3, hB4, hB5, e8⟩ := HF.out
        obtain ⟨A2, hA2⟩ : ∃ A2, A2 = A1.setCell ⟨X8, 1, none⟩ (.int .i64 ((N1 : Int) + 1)) := ⟨_, rfl⟩
        rw [← hA2]
        have hz2 : A2.heap.size = A1.heap.size := by rw [hA2]; simp
        have hb2 : Below A2.heap.size A2 (A2.alloc (Obj.cells #[.int .i64 1, .int .i64 0] 73)) := by (repeat' (first | (with_reducible exact Below.refl _ _) | (with_reducible assumption) | (with_reducible refine Below.drewN ?_ _) | (with_reducible refine Below.alloc ?_ ?_ _) | (with_reducible refine Below.drew ?_) | (with_reducible refine Below.setCell ?_ ?_ _) | (with_reducible refine Below.step (by assumption) ?_ ?_) | (with_reducible exact And.left (by assumption)) | go_size))
        have g4 : A2.heap[lr]? = some (.loop RB) := by rw [hA2]; exact (heap_set_neI (show lr ≠ X8 by omega)).trans hB4
        have g5 : A2.heap[D]? = some (.deferred (some [])) := by rw [hA2]; exact (heap_set_neI (show D ≠ X8 by omega)).trans hB5
        have g8 := blk_set e8 1 (.int .i64 ((N1 : Int) + 1))
        rw [← hA2] at g8
        have gs : SameCells wq A2 := by rw [hA2]; exact hB1.setI n8
        have gb : Below w.heap.size w A2 := by rw [hA2]; exact hB3.setCell hw8 _
        refine HNRM.out _ _ ((hb2.block _ (by omega)).trans g4) ((hb2.block _ (by omega)).trans g5) (gs.below hb2) (by have := hb2.size; omega) (gb.trans (hb2.mono gb.size)) ?_
        rw [HE.out.1, HE.out.2]
        exact (hb2.block _ (by omega)).trans g8
    · have hr0 : (rr == 0) = false := by simpa using hr
      have e0 := HN0.out (by rw [HD0.out, hr0]; rfl)
      have e1 := HN1.out (by rw [HD1.out, hr0]; rfl)
      have HE := Lib.hid (And.intro e0 e1)
      clear e0 e1 HY0 HY1 HN0 HN1 HD0 HD1 hr
      gi_wp2
      obtain ⟨hB1, hB2, hB3, hB4, hB5, e8⟩ := HF.out
      have hbA := HBA.out
      refine HNRM.out _ _ ((hbA.block _ llr).trans hB4) ((hbA.block _ (by omega)).trans hB5) (hB1.below hbA) (Nat.le_trans hB2 hbA.size) (hB3.trans (hbA.mono hB3.size)) ?_
      rw [HE.out.1, HE.out.2]
      exact (hbA.block _ l8).trans e8
  · rintro e W9 ⟨⟨v, rfl⟩, h⟩
    obtain ⟨h1, h3⟩ := h.resolve_right id
    refine ⟨⟨_, rfl⟩, .inl ⟨h1.1, ?_⟩⟩
    have hBw : Below w.heap.size w (W9.putObj lr (.loop { rec with state := .exhausted })) := h1.2.2.2.2.trans (belowK_b (w := w) (Nat.le_refl _) W9 lr _ _ (by omega) h1.1 rfl rfl)
    have g5 : (W9.putObj lr (.loop { rec with state := .exhausted })).heap[D]? = some (.deferred (some [])) := (World.putObj_heap_other (by omega)).trans h1.2.1
    have g8 : (W9.putObj lr (.loop { rec with state := .exhausted })).heap[X8]? = _ := (World.putObj_heap_other (show X8 ≠ lr by omega)).trans h3
    have hS := h1.2.2.1.put (r' := { rec with state := .exhausted }) h1.1
    generalize W9.putObj lr (.loop { rec with state := .exhausted }) = W2 at *
    have c0 := cell_of_row _ _ 0 _ _ _ g8
    have c1 := cell_of_row _ _ 1 _ _ _ g8
    simp only [List.getElem?_toArray, List.getElem?_cons_zero, List.getElem?_cons_succ] at c0 c1
    have kz := hS _ _ _ _ k4
    have z0 := cell_of_row _ _ 0 _ _ _ kz
    have z1 := cell_of_row _ _ 1 _ _ _ kz
    have v0 := frozen_of_row _ _ 0 _ _ kz
    have v1 := frozen_of_row _ _ 1 _ _ kz
    simp only [List.getElem?_toArray, List.getElem?_cons_zero, List.getElem?_cons_succ] at z0 z1
    have l8 : X8 < W2.heap.size := (Array.getElem?_eq_some_iff.1 g8).1
    have l4 : X4 < W2.heap.size := (Array.getElem?_eq_some_iff.1 kz).1
    have HBw := Lib.hid hBw
    have H5 := Lib.hid g5
    have HKZ := Lib.hid kz
    clear h h1 h3 hst hpe hpa htm has hbo hI9 h8 g8 hBw g5 hS kz
    go_wp2_with fail
    simp only [show ∀ t, dirL m (cloU s 6) t = dirS m s t from fun _ => rfl]
    obtain ⟨W3, hW3⟩ : ∃ W3, W3 = (W2.setCell ⟨X4, 0, none⟩ (.int .i64 (dirS m s 0 : Nat))).setCell ⟨X4, 1, none⟩ (.int .i64 (dirS m s 1 : Nat)) := ⟨_, rfl⟩
    rw [← hW3]
    have kw : W3.heap[X4]? = some (.cells #[.int .i64 (dirS m s 0 : Nat), .int .i64 (dirS m s 1 : Nat)] 170) := by rw [hW3]; exact blk_set (blk_set HKZ.out 0 _) 1 _
    have hb3 : Below w.heap.size w W3 := by rw [hW3]; exact Below.setCell (Below.setCell HBw.out hw4 _) hw4 _
    have h53 : W3.heap[D]? = some (.deferred (some [])) := by rw [hW3]; exact (heap_set_neI (by omega)).trans ((heap_set_neI (by omega)).trans H5.out)
    refine leaves_marks (B := w.heap.size) (w0 := w) [D] W3 (by simp) (fun E hE => by simp at hE; subst hE; exact ⟨hwD, h53⟩) hb3 (fun w' hs hb' => ⟨.agg #[.int .i64 (dirS m s 0 : Nat), .int .i64 (dirS m s 1 : Nat)], ?_, rfl, hb'⟩)
    have kv := hs _ _ _ _ kw
    have r0 := blk_cell kv (i := 0) rfl
    have r1 := blk_cell kv (i := 1) rfl
    simp [results, Tryz.results180, go_sem, r0, r1]
end Go.Proofs.YtidboecjllaofaaGreat
