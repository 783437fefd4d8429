/- The program's steepest piece. -/
import Derived.Test.YtiellefbndlkkaaSlopes
import Derived.Test.YtiellefbndlkkaaFrac
namespace Go.Proofs.Ytiellefbndlkkaa
open Go.RowKit Go.Shelf
set_option linter.unusedVariables false
attribute [local go_sem] Oper.semAt_some

set_option maxRecDepth 100000 in
theorem steepest_bad (l : List (Int × Int)) (E : Int) (a : Option Addr) (n c : Nat) (w : World) (hl : PairsR w a n l) (hE : (impErr l).2 = E) (h0 : E ≠ 0) :
    Calls Try.prog 53 #[.agg #[.slice a n c]] w fun e' w' => e' = .returned (.tuple #[.int .i64 0, .agg #[.int .i64 0, .int .i64 0], .int .i64 E]) ∧ Below w.heap.size w w' := by
  have HC := Lib.hid (fun (w' : World) (hb : Below w.heap.size w w') => open_any l a n c w' (hl.below hb))
  rw [hE] at HC
  have h1 : (E != 0) = true := by simpa using h0
  clear hl h0
  go_enter Try.func53, Try.ntmps53
  go_wp2_with fail
  refine (HC.out _ (by (repeat' (first | (with_reducible exact Below.refl _ _) | (with_reducible assumption) | (with_reducible refine Below.drewN ?_ _) | (with_reducible refine Below.alloc ?_ ?_ _) | (with_reducible refine Below.drew ?_) | (with_reducible refine Below.setCell ?_ ?_ _) | (with_reducible refine Below.step (by assumption) ?_ ?_) | (with_reducible exact And.left (by assumption)) | go_size)))).mono ?_
  rintro e5 w5 ⟨rfl, hb5⟩
  have hz5 := hb5.size
  simp only [World.size_alloc] at hz5
  have p0 : w5.cell? ⟨w.heap.size + 1, 0, none⟩ = some (.int .i64 0) := by { rw [cellB hb5 _ _ (by first | (simp; done) | (simp; omega) | omega)]; all_goals (first | assumption | go_simp) }; have p1 : w5.cell? ⟨w.heap.size + 1, 1, none⟩ = some (.int .i64 0) := by { rw [cellB hb5 _ _ (by first | (simp; done) | (simp; omega) | omega)]; all_goals (first | assumption | go_simp) }; have f0 : w5.frozen? ⟨w.heap.size + 1, 0, none⟩ = false := by { rw [frozenB hb5 _ _ (by first | (simp; done) | (simp; omega) | omega)]; all_goals (first | assumption | go_simp) }; have f1 : w5.frozen? ⟨w.heap.size + 1, 1, none⟩ = false := by { rw [frozenB hb5 _ _ (by first | (simp; done) | (simp; omega) | omega)]; all_goals (first | assumption | go_simp) }; have l1 : w.heap.size + 1 < w5.heap.size := by { omega }
  have HB5 := Lib.hid (show Below w.heap.size w w5 by (repeat' (first | (with_reducible exact Below.refl _ _) | (with_reducible assumption) | (with_reducible refine Below.drewN ?_ _) | (with_reducible refine Below.alloc ?_ ?_ _) | (with_reducible refine Below.drew ?_) | (with_reducible refine Below.setCell ?_ ?_ _) | (with_reducible refine Below.step (by assumption) ?_ ?_) | (with_reducible exact And.left (by assumption)) | go_size)))
  clear hb5 HC
  have hn5 : w.heap.size + 1 ≠ w5.heap.size := by omega
  go_wp2
  refine bodyPost_ret (v := .tuple #[.int .i64 0, .agg #[.int .i64 0, .int .i64 0], .int .i64 E]) (by simp [results, Try.results53, go_sem, World.cell?_alloc_old, hn5, p0, p1]) rfl ⟨rfl, ?_⟩
  have := HB5.out
  (repeat' (first | (with_reducible exact Below.refl _ _) | (with_reducible assumption) | (with_reducible refine Below.drewN ?_ _) | (with_reducible refine Below.alloc ?_ ?_ _) | (with_reducible refine Below.drew ?_) | (with_reducible refine Below.setCell ?_ ?_ _) | (with_reducible refine Below.step (by assumption) ?_ ?_) | (with_reducible exact And.left (by assumption)) | go_size))
/-- The best piece of the first so many: its index, its slope. -/
def stI (l : List (Int × Int)) : Nat → Nat × Int × Int
  | 0 => (0, 0, 0)
  | k + 1 => (stB l k, slOf l (stB l k))
theorem cf_slopes (args : Array Value) (w : World) : (callFunc 118 args).run Try.prog w = .ok (.enter 118 args) w := by kernel_rfl
theorem upd3 {A : World} {X7 X8 : Nat} {t7 t8 : TypeId} {i a b : Value} (n : X7 ≠ X8) (h7 : A.heap[X7]? = some (.cells #[i] t7)) (h8 : A.heap[X8]? = some (.cells #[a, b] t8)) (v f g : Value) :
    (((A.setCell ⟨X7, 0, none⟩ v).setCell ⟨X8, 0, none⟩ f).setCell ⟨X8, 1, none⟩ g).drew.heap[X7]? = some (.cells #[v] t7) ∧ (((A.setCell ⟨X7, 0, none⟩ v).setCell ⟨X8, 0, none⟩ f).setCell ⟨X8, 1, none⟩ g).drew.heap[X8]? = some (.cells #[f, g] t8) ∧
      ∀ q : Nat, q ≠ X7 → q ≠ X8 → (((A.setCell ⟨X7, 0, none⟩ v).setCell ⟨X8, 0, none⟩ f).setCell ⟨X8, 1, none⟩ g).drew.heap[q]? = A.heap[q]? := by
  refine ⟨?_, ?_, fun q h1 h2 => ?_⟩
  · simp [World.drew, World.setCell, Array.getElem?_modify, h7, n.symm]
  · simp [World.drew, World.setCell, Array.getElem?_modify, h8, n]
  · simp [World.drew, World.setCell, Array.getElem?_modify, h1.symm, h2.symm]
set_option maxHeartbeats 4000000 in
set_option maxRecDepth 100000 in
theorem steepest_ok (l : List (Int × Int)) (a : Option Addr) (n c : Nat) (w : World) (hl : PairsR w a n l) (h0 : (impErr l).2 = 0) :
    Calls Try.prog 53 #[.agg #[.slice a n c]] w fun e' w' => e' = .returned (.tuple #[.int .i64 (stI l (n - 1)).1, .agg #[.int .i64 (stI l (n - 1)).2.1, .int .i64 (stI l (n - 1)).2.2], .int .i64 0]) ∧ Below w.heap.size w w' := by
  have hz := impErr_zero h0
  rw [hl.len] at hz
  obtain ⟨hn2, hn12, _⟩ := hz
  obtain ⟨b0, o0, rfl, hb0, hc0⟩ := hl.addr (by omega)
  have HC := Lib.hid (fun (w' : World) (hb : Below w.heap.size w w') => open_any l (some ⟨b0, o0, none⟩) n c w' (hl.below hb))
  rw [h0] at HC
  have HL := Lib.hid hl
  have H0 := Lib.hid h0
  clear hl hc0 h0
  refine (callsIn_wide (n := 3)).1 ?_
  refine callsIn_of_wp_marks Try.func53 rfl trivial ?_ rfl
  simp only [Try.ntmps53, List.size_toArray, List.length_cons, List.length_nil, Nat.reduceAdd, Nat.reduceSub, Array.replicate_succ, Array.replicate_zero, List.push_toArray, List.append_toArray, List.nil_append, List.cons_append]
  refine (wpIn_wide (n := 3)).2 ?_
  go_wp2_with fail
  refine (HC.out _ (by (repeat' (first | (with_reducible exact Below.refl _ _) | (with_reducible assumption) | (with_reducible refine Below.drewN ?_ _) | (with_reducible refine Below.alloc ?_ ?_ _) | (with_reducible refine Below.drew ?_) | (with_reducible refine Below.setCell ?_ ?_ _) | (with_reducible refine Below.step (by assumption) ?_ ?_) | (with_reducible exact And.left (by assumption)) | go_size)))).mono ?_
  rintro e5 w5 ⟨rfl, hb5⟩
  have hz5 := hb5.size
  simp only [World.size_alloc] at hz5
  have r5 : w5.heap[w.heap.size + 1]? = some (.cells #[.int .i64 0, .int .i64 0] 45) := by
    rw [hb5.block _ (by simp)]
    have := heap_alloc_new (w.alloc (Obj.cells #[.slice (some ⟨b0, o0, none⟩) n c] 87)) (Obj.cells #[.int .i64 0, .int .i64 0] 45)
    rwa [World.size_alloc] at this
  have HB5 := Lib.hid (show Below w.heap.size w w5 by (repeat' (first | (with_reducible exact Below.refl _ _) | (with_reducible assumption) | (with_reducible refine Below.drewN ?_ _) | (with_reducible refine Below.alloc ?_ ?_ _) | (with_reducible refine Below.drew ?_) | (with_reducible refine Below.setCell ?_ ?_ _) | (with_reducible refine Below.step (by assumption) ?_ ?_) | (with_reducible exact And.left (by assumption)) | go_size)))
  clear hb5 HC
  go_wp2
  generalize hW : ((w5.alloc _).alloc _).alloc _ = w8
  have hb8 : Below w5.heap.size w5 w8 := by rw [← hW]; (repeat' (first | (with_reducible exact Below.refl _ _) | (with_reducible assumption) | (with_reducible refine Below.drewN ?_ _) | (with_reducible refine Below.alloc ?_ ?_ _) | (with_reducible refine Below.drew ?_) | (with_reducible refine Below.setCell ?_ ?_ _) | (with_reducible refine Below.step (by assumption) ?_ ?_) | (with_reducible exact And.left (by assumption)) | go_size))
  have r8 : w8.heap[w5.heap.size + 1 + 1]? = some (.cells #[.int .i64 0, .int .i64 0] 45) := by
    rw [← hW]
    have := heap_alloc_new ((w5.alloc (Obj.cells #[.slice (some ⟨b0, o0, none⟩) n c] 165)).alloc (Obj.cells #[.int .i64 0] 3)) (Obj.cells #[.int .i64 0, .int .i64 0] 45)
    simpa using this
  have r7 : w8.heap[w5.heap.size + 1]? = some (.cells #[.int .i64 0] 3) := by
    rw [← hW, Below.heap_alloc _ _ _ (by simp)]
    have := heap_alloc_new (w5.alloc (Obj.cells #[.slice (some ⟨b0, o0, none⟩) n c] 165)) (Obj.cells #[.int .i64 0] 3)
    simpa using this
  have r3 := (hb8.block _ (Array.getElem?_eq_some_iff.1 r5).1).trans r5
  have HB8 := Lib.hid (HB5.out.trans (hb8.mono HB5.out.size))
  have hb58 := hb8.size
  have l3 := (Array.getElem?_eq_some_iff.1 r5).1
  obtain ⟨X7, hX7⟩ : ∃ X, X = w5.heap.size + 1 := ⟨_, rfl⟩
  obtain ⟨X8, hX8⟩ : ∃ X, X = w5.heap.size + 1 + 1 := ⟨_, rfl⟩
  obtain ⟨X3, hX3⟩ : ∃ X, X = w.heap.size + 1 := ⟨_, rfl⟩
  rw [← hX8] at r8
  rw [← hX7] at r7
  rw [← hX3] at r3
  simp only [← hX8]
  simp only [← hX7]
  simp only [← hX3]
  have n78 : X7 ≠ X8 := by omega
  have n37 : X3 ≠ X7 := by omega
  have n38 : X3 ≠ X8 := by omega
  have e7 : w.heap.size ≤ X7 := by omega
  have e8 : w.heap.size ≤ X8 := by omega
  have e3 : w.heap.size ≤ X3 := by omega
  have nb7 : b0 ≠ X7 := by omega
  have nb8 : b0 ≠ X8 := by omega
  have l7 := (Array.getElem?_eq_some_iff.1 r7).1
  have l8 := (Array.getElem?_eq_some_iff.1 r8).1
  have l3 := (Array.getElem?_eq_some_iff.1 r3).1
  have hb58' := HB8.out.size
  clear hW hX7 hX8 hX3 hb8 r5 hz5 hb58 HB5
  refine (wpIn_wide (n := 3)).1 ?_
  refine range_on (gf := 118) (fst := #[.agg #[.slice (some ⟨b0, o0, none⟩) n c]]) rfl cf_slopes ?_
  intro rec hst hpe hpa htm has hbo
  have hL1 : ((w8.alloc (.deferred (some []))).alloc (.loop rec)).heap[w8.heap.size + 1]? = some (.loop rec) := by
    have := World.alloc_heap_new (w8.alloc (.deferred (some []))) (.loop rec); rwa [World.size_alloc] at this
  have hK1 : ((w8.alloc (.deferred (some []))).alloc (.loop rec)).heap[w8.heap.size]? = some (.deferred (some [])) := (Below.heap_alloc _ _ _ (by simp)).trans (World.alloc_heap_new w8 _)
  have hb9 : Below w8.heap.size w8 ((w8.alloc (.deferred (some []))).alloc (.loop rec)) := by (repeat' (first | (with_reducible exact Below.refl _ _) | (with_reducible assumption) | (with_reducible refine Below.drewN ?_ _) | (with_reducible refine Below.alloc ?_ ?_ _) | (with_reducible refine Below.drew ?_) | (with_reducible refine Below.setCell ?_ ?_ _) | (with_reducible refine Below.step (by assumption) ?_ ?_) | (with_reducible exact And.left (by assumption)) | go_size))
  generalize (w8.alloc (.deferred (some []))).alloc (.loop rec) = w9 at *
  obtain ⟨lr, hlr⟩ : ∃ lr, lr = w8.heap.size + 1 := ⟨_, rfl⟩
  obtain ⟨D, hD⟩ : ∃ D, D = w8.heap.size := ⟨_, rfl⟩
  rw [← hlr] at hL1
  rw [← hD] at hK1
  simp only [← hlr]
  simp only [← hD]
  have d7 : X7 < D := by omega
  have d8 : X8 < D := by omega
  have d3 : X3 < D := by omega
  have dl : lr = D + 1 := by omega
  have HDL := Lib.hid dl
  have r7' := (hb9.block _ l7).trans r7
  have r8' := (hb9.block _ l8).trans r8
  have r3' := (hb9.block _ l3).trans r3
  have HB9 := Lib.hid (HB8.out.trans (hb9.mono HB8.out.size))
  have HL9 := Lib.hid (HL.out.below HB9.out)
  have h79 : X7 < w9.heap.size := by have := hb9.size; omega
  have h89 : X8 < w9.heap.size := by have := hb9.size; omega
  clear r7 r8 r3 l7 l8 l3 hb9 hlr hD dl HB8
  show CallsIn Fence.wide _ _ _ #[.agg #[.slice (some ⟨b0, o0, none⟩) n c], .func (.yield lr) #[] #[]] _ _
  refine (callsIn_wide.2 (slopes_calls l b0 o0 n c X7 X8 lr (fun k W => W.heap[lr]? = some (.loop rec) ∧ W.heap[D]? = some (.deferred (some [])) ∧ W.heap[X7]? = some (.cells #[.int .i64 ((stI l k).1 : Nat)] 3) ∧ W.heap[X8]? = some (.cells #[.int .i64 (stI l k).2.1, .int .i64 (stI l k).2.2] 45) ∧ W.heap[X3]? = some (.cells #[.int .i64 0, .int .i64 0] 45) ∧ Below w.heap.size w W) w9 H0.out HL9.out nb7 nb8 h79 h89 ?_ ?_ ⟨hL1, hK1, r7', r8', r3', HB9.out⟩)).mono ?_
  · rintro k A B ⟨j1, j2, j3, j4, j5, j6⟩ hb
    exact ⟨(hb.block _ (Array.getElem?_eq_some_iff.1 j1).1).trans j1, (hb.block _ (Array.getElem?_eq_some_iff.1 j2).1).trans j2, (hb.block _ (Array.getElem?_eq_some_iff.1 j3).1).trans j3, (hb.block _ (Array.getElem?_eq_some_iff.1 j4).1).trans j4, (hb.block _ (Array.getElem?_eq_some_iff.1 j5).1).trans j5, j6.trans (hb.mono j6.size)⟩
  · rintro k A hk ⟨j1, j2, j3, j4, j5, j6⟩
    refine yield_on j1 hst hpe (by rw [hpa]; rfl) ?_
    obtain ⟨RB, hRB⟩ : ∃ RB : Loop, RB = { rec with state := .busy } := ⟨_, rfl⟩
    rw [← hRB]
    have HRB := Lib.hid hRB
    clear hRB
    rw [has, hbo, hpa, htm]
    clear has hbo hpa htm hst hpe
    have hlen := HL.out.len
    have hmulA := fun B (hB : B + 1 < n) => sl_mul H0.out (i := k) (j := B) (by rw [hlen]; exact hk) (by rw [hlen]; exact hB)
    have hmulB := fun B (hB : B + 1 < n) => sl_mul H0.out (i := B) (j := k) (by rw [hlen]; exact hB) (by rw [hlen]; exact hk)
    obtain ⟨I, hI⟩ : ∃ I, I = (stI l k).1 := ⟨_, rfl⟩
    obtain ⟨P, hP⟩ : ∃ I, I = (stI l k).2.1 := ⟨_, rfl⟩
    obtain ⟨Q, hQ⟩ : ∃ I, I = (stI l k).2.2 := ⟨_, rfl⟩
    obtain ⟨F, hF⟩ : ∃ I, I = (slOf l k).1 := ⟨_, rfl⟩
    obtain ⟨G, hG⟩ : ∃ I, I = (slOf l k).2 := ⟨_, rfl⟩
    rw [← hI] at j3
    rw [← hP, ← hQ] at j4
    rw [← hF, ← hG]
    have hcase : (((k : Int) == 0) = true ∧ stI l (k + 1) = (k, F, G)) ∨ (((k : Int) == 0) = false ∧ -2000000000000 ≤ F * Q ∧ F * Q ≤ 2000000000000 ∧ -2000000000000 ≤ P * G ∧ P * G ≤ 2000000000000 ∧ stI l (k + 1) = if P * G < F * Q then (k, F, G) else (I, P, Q)) := by
      rcases k with _ | j
      · refine .inl ⟨rfl, ?_⟩
        show (stB l 0, slOf l (stB l 0)) = _
        rw [hF, hG]; rfl
      · have hB := stB_le l j
        have h1 := hmulA (stB l j) (by omega)
        have h2 := hmulB (stB l j) (by omega)
        have e1 : I = stB l j := hI
        have e2 : P = (slOf l (stB l j)).1 := hP
        have e3 : Q = (slOf l (stB l j)).2 := hQ
        rw [← hF, ← e3] at h1
        rw [← hG, ← e2] at h2
        refine .inr ⟨by simp; omega, h1.1, h1.2, h2.1, h2.2, ?_⟩
        show (stB l (j + 1), slOf l (stB l (j + 1))) = _
        rw [stB, ← hF, ← hG, ← e2, ← e3]
        by_cases h : P * G < F * Q
        · rw [if_pos h, if_pos h, hF, hG]
        · rw [if_neg h, if_neg h, e1, e2, e3]
    clear hI hP hQ hF hG hmulA hmulB hlen
    gi_wp2
    have a10 := heap_alloc_new A (Obj.cells #[.int .i64 F, .int .i64 G] 45)
    have jl := (Array.getElem?_eq_some_iff.1 j1).1
    have ja : ∀ (q : Nat) (o : Obj), A.heap[q]? = some o → (A.alloc (Obj.cells #[.int .i64 F, .int .i64 G] 45)).heap[q]? = some o := fun q o h => (Below.heap_alloc _ _ _ (by have := (Array.getElem?_eq_some_iff.1 h).1; omega)).trans h
    refine ⟨ja _ _ j1, ?_⟩
    have jB : Below w.heap.size w (A.alloc (Obj.cells #[.int .i64 F, .int .i64 G] 45)) := j6.alloc j6.size _
    have kl := ja _ _ j1
    have k2 := ja _ _ j2
    have k3 := ja _ _ j3
    have k4 := ja _ _ j4
    have k5 := ja _ _ j5
    have hsz : (A.alloc (Obj.cells #[.int .i64 F, .int .i64 G] 45)).heap.size = A.heap.size + 1 := by simp
    have hKC : ∀ (q : Nat) (cc : Array Value) (tt : TypeId) (zz : Nat × Nat), A.heap[q]? = some (.cells cc tt zz) → (A.alloc (Obj.cells #[.int .i64 F, .int .i64 G] 45)).heap[q]? = some (.cells cc tt zz) := fun q cc tt zz h => ja q _ h
    generalize A.alloc (Obj.cells #[.int .i64 F, .int .i64 G] 45) = A1 at *
    obtain ⟨X10, hX10⟩ : ∃ X, X = A.heap.size := ⟨_, rfl⟩
    rw [← hX10] at a10
    simp only [← hX10]
    have m7 : X7 < A.heap.size := (Array.getElem?_eq_some_iff.1 j3).1
    have m8 : X8 < A.heap.size := (Array.getElem?_eq_some_iff.1 j4).1
    have m3 : X3 < A.heap.size := (Array.getElem?_eq_some_iff.1 j5).1
    have mD : D < A.heap.size := (Array.getElem?_eq_some_iff.1 j2).1
    have hdl := HDL.out
    have n10l : X10 ≠ lr := by omega
    have elr : w.heap.size ≤ lr := by omega
    have n107 : X10 ≠ X7 := by omega
    have n108 : X10 ≠ X8 := by omega
    have n7l : X7 ≠ lr := by omega
    have n8l : X8 ≠ lr := by omega
    have n3l : X3 ≠ lr := by omega
    have nDl : D ≠ lr := by omega
    have jl1 : lr < A1.heap.size := by omega
    have p0 : (A1.putObj lr (.loop RB)).heap[lr]? = some (.loop RB) := World.putObj_heap_same jl1
    have pq : ∀ q : Nat, q ≠ lr → (A1.putObj lr (.loop RB)).heap[q]? = A1.heap[q]? := fun q h => World.putObj_heap_other h
    have p10 := (pq _ n10l).trans a10
    have p7 := (pq _ n7l).trans k3
    have p8 := (pq _ n8l).trans k4
    have p3 := (pq _ n3l).trans k5
    have pD := (pq _ nDl).trans k2
    have pB : Below w.heap.size w (A1.putObj lr (.loop RB)) := jB.trans (belowK_b (w := w) (Nat.le_refl _) A1 lr _ _ (by omega) kl rfl rfl)
    generalize A1.putObj lr (.loop RB) = A2 at *
    have HKC := Lib.hid (fun (q : Nat) (cc : Array Value) (tt : TypeId) (zz : Nat × Nat) (hq : q ≠ lr) (h : A.heap[q]? = some (Obj.cells cc tt zz)) => (pq q hq).trans (hKC q cc tt zz h))
    have HJL := Lib.hid j1
    have c7 := cell_of_row _ _ 0 _ _ _ p7
    have f7 := frozen_of_row _ _ 0 _ _ p7
    have c80 := cell_of_row _ _ 0 _ _ _ p8
    have c81 := cell_of_row _ _ 1 _ _ _ p8
    have f80 := frozen_of_row _ _ 0 _ _ p8
    have f81 := frozen_of_row _ _ 1 _ _ p8
    have c10 := cell_of_row _ _ 0 _ _ _ p10
    have c11 := cell_of_row _ _ 1 _ _ _ p10
    simp only [List.getElem?_toArray, List.getElem?_cons_zero, List.getElem?_cons_succ] at c7 c80 c81 c10 c11
    clear j1 j2 j3 j4 j5 j6 kl k2 k3 k4 k5 ja hKC pq a10 jB hX10 hsz hdl
    have hfin : ∀ W : World, W.heap[lr]? = some (.loop RB) → W.heap[D]? = some (.deferred (some [])) → W.heap[X7]? = some (.cells #[.int .i64 ((stI l (k + 1)).1 : Nat)] 3) → W.heap[X8]? = some (.cells #[.int .i64 (stI l (k + 1)).2.1, .int .i64 (stI l (k + 1)).2.2] 45) → W.heap[X3]? = some (.cells #[.int .i64 0, .int .i64 0] 45) → Below w.heap.size w W → (∀ q : Nat, q ≠ X7 → q ≠ X8 → W.heap[q]? = A2.heap[q]?) →
        onPost Try.prog lr rec (fun e B => e = .returned (.bool true) ∧ (B.heap[lr]? = some (.loop rec) ∧ B.heap[D]? = some (.deferred (some [])) ∧ B.heap[X7]? = some (.cells #[.int .i64 ((stI l (k + 1)).1 : Nat)] 3) ∧ B.heap[X8]? = some (.cells #[.int .i64 (stI l (k + 1)).2.1, .int .i64 (stI l (k + 1)).2.2] 45) ∧ B.heap[X3]? = some (.cells #[.int .i64 0, .int .i64 0] 45) ∧ Below w.heap.size w B) ∧ KeepC X7 X8 A B) .normal { tmps := #[], defers := [] } W := by
      intro W h1 h2 h3 h4 h5 h6 h7
      have hl := (Array.getElem?_eq_some_iff.1 h1).1
      have ho : ∀ q : Nat, q ≠ lr → (W.putObj lr (.loop rec)).heap[q]? = W.heap[q]? := fun q h => World.putObj_heap_other h
      refine ⟨by rw [← HRB.out]; exact h1, rfl, ⟨World.putObj_heap_same hl, (ho _ nDl).trans h2, (ho _ n7l).trans h3, (ho _ n8l).trans h4, (ho _ n3l).trans h5, h6.trans (belowK_b (w := w) (Nat.le_refl _) W lr _ _ (by omega) h1 rfl rfl)⟩, ?_⟩
      intro q cc tt zz q7 q8 hq
      have hql : q ≠ lr := by
        rintro rfl
        rw [HJL.out] at hq
        cases hq
      rw [ho _ hql, h7 _ q7 q8]
      exact HKC.out _ _ _ _ hql hq
    have HFIN := Lib.hid hfin
    clear hfin
    rcases hcase with ⟨hk0, hst2⟩ | ⟨hk0, b1, b2, b3, b4, hst2⟩
    · have HST := Lib.hid hst2
      clear hst2
      have hu := upd3 n78 p7 p8 (.int .i64 k) (.int .i64 F) (.int .i64 G)
      have HU := Lib.hid hu
      clear hu
      gi_wp2
      gi_region
      all_goals
        gi_wp2
        have hu := HU.out
        exact HFIN.out _ ((hu.2.2 lr n7l.symm n8l.symm).trans p0) ((hu.2.2 D (by omega) (by omega)).trans pD) (by rw [HST.out]; exact hu.1) (by rw [HST.out]; exact hu.2.1) ((hu.2.2 X3 n37 n38).trans p3) (Below.setCell (Below.setCell (Below.setCell pB e7 _) e8 _) e8 _).drew hu.2.2
    · by_cases hgt : P * G < F * Q
      · rw [if_pos hgt] at hst2
        have HST := Lib.hid hst2
        clear hst2
        have hu := upd3 n78 p7 p8 (.int .i64 k) (.int .i64 F) (.int .i64 G)
        have HU := Lib.hid hu
        clear hu
        gi_wp2
        gi_region
        all_goals
          gi_wp2
          have hu := HU.out
          exact HFIN.out _ ((hu.2.2 lr n7l.symm n8l.symm).trans p0) ((hu.2.2 D (by omega) (by omega)).trans pD) (by rw [HST.out]; exact hu.1) (by rw [HST.out]; exact hu.2.1) ((hu.2.2 X3 n37 n38).trans p3) (Below.setCell (Below.setCell (Below.setCell pB e7 _) e8 _) e8 _).drew hu.2.2
      · rw [if_neg hgt] at hst2
        have HST := Lib.hid hst2
        clear hst2
        gi_wp2
        exact HFIN.out A2 p0 pD (by rw [HST.out]; exact p7) (by rw [HST.out]; exact p8) p3 pB (fun _ _ _ => rfl)
  · rintro e W ⟨⟨v, rfl⟩, j1, j2, j3, j4, j5, j6⟩
    refine ⟨⟨_, rfl⟩, j1, ?_⟩
    obtain ⟨RX, hRX⟩ : ∃ RX : Loop, RX = { rec with state := .exhausted } := ⟨_, rfl⟩
    rw [← hRX]
    clear hRX has hbo hpa htm hst hpe
    obtain ⟨I, hI⟩ : ∃ I, I = (stI l (n - 1)).1 := ⟨_, rfl⟩
    obtain ⟨P, hP⟩ : ∃ I, I = (stI l (n - 1)).2.1 := ⟨_, rfl⟩
    obtain ⟨Q, hQ⟩ : ∃ I, I = (stI l (n - 1)).2.2 := ⟨_, rfl⟩
    rw [← hI] at j3
    rw [← hP, ← hQ] at j4
    have HIPQ := Lib.hid (And.intro hI (And.intro hP hQ))
    clear hI hP hQ
    have hdl := HDL.out
    have n7l : X7 ≠ lr := by omega
    have n8l : X8 ≠ lr := by omega
    have n3l : X3 ≠ lr := by omega
    have nDl : D ≠ lr := by omega
    have n3D : X3 ≠ D := by omega
    have elr : w.heap.size ≤ lr := by omega
    have eD : w.heap.size ≤ D := by omega
    have pq : ∀ q : Nat, q ≠ lr → (W.putObj lr (.loop RX)).heap[q]? = W.heap[q]? := fun q h => World.putObj_heap_other h
    have p7 := (pq _ n7l).trans j3
    have p8 := (pq _ n8l).trans j4
    have p3 := (pq _ n3l).trans j5
    have pD := (pq _ nDl).trans j2
    have pB : Below w.heap.size w (W.putObj lr (.loop RX)) := j6.trans (belowK_b (w := w) (Nat.le_refl _) W lr _ _ elr j1 rfl rfl)
    generalize W.putObj lr (.loop RX) = W2 at *
    have c7 := cell_of_row _ _ 0 _ _ _ p7
    have c80 := cell_of_row _ _ 0 _ _ _ p8
    have c81 := cell_of_row _ _ 1 _ _ _ p8
    have c30 := cell_of_row _ _ 0 _ _ _ p3
    have c31 := cell_of_row _ _ 1 _ _ _ p3
    have f30 := frozen_of_row _ _ 0 _ _ p3
    have f31 := frozen_of_row _ _ 1 _ _ p3
    simp only [List.getElem?_toArray, List.getElem?_cons_zero, List.getElem?_cons_succ] at c7 c80 c81 c30 c31
    clear j1 j2 j3 j4 j5 j6 pq hdl
    have hu : ((W2.setCell ⟨X3, 0, none⟩ (.int .i64 P)).setCell ⟨X3, 1, none⟩ (.int .i64 Q)).drew.heap[X3]? = some (.cells #[.int .i64 P, .int .i64 Q] 45) := by simp [World.drew, World.setCell, Array.getElem?_modify, p3]
    have hd : ((W2.setCell ⟨X3, 0, none⟩ (.int .i64 P)).setCell ⟨X3, 1, none⟩ (.int .i64 Q)).drew.heap[D]? = some (.deferred (some [])) := by simp [World.drew, World.setCell, Array.getElem?_modify, n3D, pD]
    have hB : Below w.heap.size w ((W2.setCell ⟨X3, 0, none⟩ (.int .i64 P)).setCell ⟨X3, 1, none⟩ (.int .i64 Q)).drew := (Below.setCell (Below.setCell pB e3 _) e3 _).drew
    have HU := Lib.hid (And.intro hu (And.intro hd hB))
    clear hu hd hB
    go_wp2
    go_region
    all_goals
      go_wp2
    obtain ⟨hu, hK, hB⟩ := HU.out
    generalize ((W2.setCell ⟨X3, 0, none⟩ (.int .i64 P)).setCell ⟨X3, 1, none⟩ (.int .i64 Q)).drew = W3 at *
    have hu2 : (W3.putObj D (.deferred none)).heap[X3]? = some (.cells #[.int .i64 P, .int .i64 Q] 45) := (World.putObj_heap_other n3D).trans hu
    have d30 := cell_of_row _ _ 0 _ _ _ hu2
    have d31 := cell_of_row _ _ 1 _ _ _ hu2
    simp only [List.getElem?_toArray, List.getElem?_cons_zero, List.getElem?_cons_succ] at d30 d31
    have hB2 : Below w.heap.size w (W3.putObj D (.deferred none)) := hB.trans (belowK_b (w := w) (Nat.le_refl _) W3 D _ _ eD hK rfl rfl)
    refine ⟨by simp, .inl ⟨_, _, rfl, run_takeDeferred hK, ?_⟩⟩
    refine ⟨.tuple #[.int .i64 (I : Int), .agg #[.int .i64 P, .int .i64 Q], .int .i64 0], by simp [results, Try.results53, go_sem, d30, d31], ?_, hB2⟩
    rw [HIPQ.out.1, HIPQ.out.2.1, HIPQ.out.2.2]
end Go.Proofs.Ytiellefbndlkkaa
