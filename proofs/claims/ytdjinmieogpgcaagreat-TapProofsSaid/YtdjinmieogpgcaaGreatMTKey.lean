import Derived.DeepKeys4
import Derived.Test.YtdjinmieogpgcaaGreatMTInv
/- Moments and pairs as keys of maps. -/
namespace Go.Proofs.YtdjinmieogpgcaaGreat
open Go.RowKit
set_option linter.unusedVariables false
set_option linter.unusedSimpArgs false
theorem laidAll : laidOutB Tryz.prog = true := by kernel_rfl
theorem rowMom : 27 < Tryz.prog.types.size := of_decide_eq_true (by kernel_rfl)
theorem rowPai : 29 < Tryz.prog.types.size := of_decide_eq_true (by kernel_rfl)
theorem lawMom : WideMaps.KeyLaw Tryz.prog 27 := deep_law_laid laidAll (m := 3) (by omega) rowMom (by kernel_rfl) (by kernel_rfl)
theorem lawPai : WideMaps.KeyLaw Tryz.prog 29 := deep_law_laid laidAll (m := 4) (by omega) rowPai (by kernel_rfl) (by kernel_rfl)
theorem someSize : ∃ d, Tryz.prog.types.size = d + 5 := ⟨Tryz.prog.types.size - 5, by kernel_rfl⟩
theorem cellsInt : Tryz.prog.cellsOf 3 = 1 := by kernel_rfl
theorem cellsMom : Tryz.prog.cellsOf 27 = 2 := by kernel_rfl
theorem cellsReg : Tryz.prog.cellsOf 25 = 6 := by kernel_rfl
theorem cellsRng : Tryz.prog.cellsOf 23 = 2 := by kernel_rfl
theorem cellsPai : Tryz.prog.cellsOf 29 = 16 := by kernel_rfl
theorem litsInt {d : Nat} {a : Int} (h : (Lit.int .i64 a).wf = true) : Tryz.prog.keyLits (d + 1) 3 [.int .i64 a] = some [.int .i64 a] := by
 simp [Program.keyLits, Tryz.underlying3, h]
theorem litsMom {d : Nat} {a b : Int} (h1 : (Lit.int .i64 a).wf = true) (h2 : (Lit.int .i64 b).wf = true) : Tryz.prog.keyLits (d + 2) 27 [.int .i64 a, .int .i64 b] = some [.int .i64 a, .int .i64 b] := by
 simp [Program.keyLits, Tryz.underlying27, Tryz.underlying3, cellsMom, cellsInt, h1, h2]
theorem litsRng {d : Nat} {a b : Int} (h1 : (Lit.int .i64 a).wf = true) (h2 : (Lit.int .i64 b).wf = true) : Tryz.prog.keyLits (d + 2) 23 [.int .i64 a, .int .i64 b] = some [.int .i64 a, .int .i64 b] := by
 simp [Program.keyLits, Tryz.underlying23, Tryz.underlying3, cellsRng, cellsInt, h1, h2]
theorem litsReg {d : Nat} {a b c e f g : Int} (h1 : (Lit.int .i64 a).wf = true) (h2 : (Lit.int .i64 b).wf = true) (h3 : (Lit.int .i64 c).wf = true) (h4 : (Lit.int .i64 e).wf = true) (h5 : (Lit.int .i64 f).wf = true) (h6 : (Lit.int .i64 g).wf = true) :
    Tryz.prog.keyLits (d + 3) 25 [.int .i64 a, .int .i64 b, .int .i64 c, .int .i64 e, .int .i64 f, .int .i64 g] = some [.int .i64 a, .int .i64 b, .int .i64 c, .int .i64 e, .int .i64 f, .int .i64 g] := by
 unfold Program.keyLits
 simp [Tryz.underlying25, cellsReg, cellsInt, cellsRng, litsInt h1, litsInt h2, litsInt h3, litsInt h4, litsRng h5 h6]
def momL (m : Mom) : Lit := .string (keyBytes [.int .i64 m.tap, .int .i64 m.wait])
def okM (m : Mom) : Prop := (-1000 ≤ m.tap ∧ m.tap ≤ 1000) ∧ -1000 ≤ m.wait ∧ m.wait ≤ 1000
theorem momKey (m : Mom) (h : okM m) : keyOf Tryz.prog 27 (momV m) = some (momL m) := by
 obtain ⟨⟨h1, h2⟩, h3, h4⟩ := h
 obtain ⟨d, hd⟩ := someSize
 unfold keyOf momV momL
 rw [Tryz.underlying27]
 have h5 : Tryz.prog.keyType 27 = true := by kernel_rfl
 have h6 : (Value.agg #[.int .i64 m.tap, .int .i64 m.wait]).formed Tryz.prog 27 = true := by simp [Value.formed, Tryz.underlying27, cellsMom]
 rw [h5, h6, hd]
 have h7 := litsMom (d := d + 4) (a := m.tap) (b := m.wait) (WalkArith.wf_i64 (by omega)) (WalkArith.wf_i64 (by omega))
 simp [Value.cells, h7]
theorem momKeys : KeyG Tryz.prog 27 momV momL okM := ⟨Go.Maps.Keyed.of_law lawMom, momKey, fun a ha => by
 obtain ⟨s, hs⟩ := lawMom.str (momKey a ha)
 rw [hs]; trivial, fun a b ha hb h => by
 have h1 := momKey a ha
 rw [h] at h1
 have := lawMom.inj h1 (momKey b hb)
 unfold momV at this
 obtain ⟨a1, a2⟩ := a
 obtain ⟨b1, b2⟩ := b
 simp at this
 obtain ⟨rfl, rfl⟩ := this
 rfl⟩
def paiV (p : Pai) : Value := .agg (paiC p).toArray
def paiI (p : Pai) : List Int := [p.a.tgt, p.a.band, p.a.dly, p.a.stp, p.a.lo, p.a.hi, p.b.tgt, p.b.band, p.b.dly, p.b.stp, p.b.lo, p.b.hi, p.ma.tap, p.ma.wait, p.mb.tap, p.mb.wait]
def paiL (p : Pai) : Lit := .string (keyBytes ((paiI p).map (Lit.int .i64)))
def okI (x : Int) : Prop := -100000 ≤ x ∧ x ≤ 100000
def okP (p : Pai) : Prop := (okI p.a.tgt ∧ okI p.a.band ∧ okI p.a.dly ∧ okI p.a.stp ∧ okI p.a.lo ∧ okI p.a.hi) ∧ (okI p.b.tgt ∧ okI p.b.band ∧ okI p.b.dly ∧ okI p.b.stp ∧ okI p.b.lo ∧ okI p.b.hi) ∧ (okI p.ma.tap ∧ okI p.ma.wait) ∧ okI p.mb.tap ∧ okI p.mb.wait
theorem okI_wf {x : Int} (h : okI x) : (Lit.int .i64 x).wf = true := WalkArith.wf_i64 (by unfold okI at h; omega)
theorem paiKey (p : Pai) (h : okP p) : keyOf Tryz.prog 29 (paiV p) = some (paiL p) := by
 obtain ⟨⟨a1, a2, a3, a4, a5, a6⟩, ⟨b1, b2, b3, b4, b5, b6⟩, ⟨c1, c2⟩, d1, d2⟩ := h
 obtain ⟨d, hd⟩ := someSize
 unfold keyOf
 rw [Tryz.underlying29]
 have h5 : Tryz.prog.keyType 29 = true := by kernel_rfl
 have h6 : (paiV p).formed Tryz.prog 29 = true := by simp [paiV, paiC, Value.formed, Tryz.underlying29, cellsPai]
 rw [h5, h6, hd]
 have h7 := litsReg (d := d + 2) (okI_wf a1) (okI_wf a2) (okI_wf a3) (okI_wf a4) (okI_wf a5) (okI_wf a6)
 have h8 := litsReg (d := d + 2) (okI_wf b1) (okI_wf b2) (okI_wf b3) (okI_wf b4) (okI_wf b5) (okI_wf b6)
 have h9 := litsMom (d := d + 3) (okI_wf c1) (okI_wf c2)
 have h10 := litsMom (d := d + 3) (okI_wf d1) (okI_wf d2)
 have h11 : Tryz.prog.keyLits (d + 5 + 1) 29 (paiV p).cells.toList = some ((paiI p).map (Lit.int .i64)) := by
  unfold Program.keyLits
  simp [Tryz.underlying29, paiV, paiC, paiI, Value.cells, cellsPai, cellsReg, cellsMom, h7, h8, h9, h10]
 simp only [Bool.and_self, if_true, h11]
 rfl
theorem paiKeys : KeyG Tryz.prog 29 paiV paiL okP := ⟨Go.Maps.Keyed.of_law lawPai, paiKey, fun a ha => by
 obtain ⟨s, hs⟩ := lawPai.str (paiKey a ha)
 rw [hs]; trivial, fun a b ha hb h => by
 have h1 := paiKey a ha
 rw [h] at h1
 have := lawPai.inj h1 (paiKey b hb)
 unfold paiV paiC at this
 obtain ⟨⟨_, _, _, _, _, _⟩, ⟨_, _, _, _, _, _⟩, ⟨_, _⟩, ⟨_, _⟩⟩ := a
 obtain ⟨⟨_, _, _, _, _, _⟩, ⟨_, _, _, _, _, _⟩, ⟨_, _⟩, ⟨_, _⟩⟩ := b
 simp at this
 obtain ⟨rfl, rfl, rfl, rfl, rfl, rfl, rfl, rfl, rfl, rfl, rfl, rfl, rfl, rfl, rfl, rfl⟩ := this
 rfl⟩
/- After how many ticks a regulator rests: the program's generic function at moments. -/
open Go.RowKit Go.Shelf
theorem zeroInt (w : World) : (zeroValue 3).run Tryz.prog w = .ok (.int .i64 0) w := by kernel_rfl
theorem MomV.ok {r : Reg} {m : Mom} (hr : RegV r) (h : MomV r m) : okM m := by
 obtain ⟨⟨h1, h2⟩, h3, h4⟩ := h
 have := hr.l0
 have := hr.h1
 have := hr.d1
 exact ⟨by omega, by omega⟩
set_option maxHeartbeats 1000000 in
set_option maxRecDepth 100000 in
theorem nextM_any (r : Reg) (m : Mom) (d : Int) (XR XD : Nat) (w : World) (hr : RegV r) (hm : MomV r m) (hd : -10000 ≤ d ∧ d ≤ 10000)
    (h1 : BlkR w XR (.cells #[.int .i64 r.tgt, .int .i64 r.band, .int .i64 r.dly, .int .i64 r.stp, .int .i64 r.lo, .int .i64 r.hi] 25)) (h2 : BlkR w XD (.cells #[.int .i64 d] 3)) :
    Calls Tryz.prog 103 #[.agg #[.int .i64 m.tap, .int .i64 m.wait], .pointer (some ⟨XR, 0, none⟩), .pointer (some ⟨XD, 0, none⟩)] w fun e' w' => e' = .returned (.agg #[.int .i64 (tick r d m).tap, .int .i64 (tick r d m).wait]) ∧ Below w.heap.size w w' := by
 have HA := Lib.hid (fun (W : World) => ticked_any r m d W hr hm hd)
 obtain ⟨R, hR⟩ : ∃ R, R = tick r d m := ⟨_, rfl⟩
 rw [← hR] at HA ⊢
 obtain ⟨tgt, band, dly, stp, lo, hi⟩ := r
 obtain ⟨tap, wait⟩ := m
 obtain ⟨R1, R2⟩ := R
 simp only at HA h1 ⊢
 obtain ⟨c0, c1, c2, c3, c4, c5, _⟩ := blkc6 h1
 have d0 := blk_cell h2 (i := 0) rfl
 have l1 := h1.lt
 have l2 := h2.lt
 clear hr hm hR hd h1 h2
 go_enter Tryz.func103, Tryz.ntmps103
 go_wp2_with fail
 refine (HA.out _).mono ?_
 rintro e5 w5 ⟨rfl, hb5⟩
 have k6 : w5.heap[w.heap.size + 1]? = some (.cells #[.int .i64 0, .int .i64 0] 27) := by
  rw [hb5.block _ (by simp)]
  have := heap_alloc_new (w.alloc (Obj.cells #[.int .i64 tap, .int .i64 wait] 27)) (Obj.cells #[.int .i64 0, .int .i64 0] 27)
  simpa using this
 have HB5 := Lib.hid (show Below w.heap.size w w5 by (first|exact bwg|go_size))
 obtain ⟨X6, hX6⟩ : ∃ X, X = w.heap.size + 1 := ⟨_, rfl⟩
 rw [← hX6] at k6 ⊢
 have hx6 : w.heap.size ≤ X6 := by omega
 obtain ⟨y0, y1, _⟩ := blkc2 k6
 have f0 := blk_fz k6 0
 have f1 := blk_fz k6 1
 have l6 := blk_lt k6
 have HK6 := Lib.hid k6
 clear hb5 k6 hX6
 go_wp2
 have kw := blk_set (blk_set HK6.out 0 (.int .i64 R1)) 1 (.int .i64 R2)
 obtain ⟨s0, s1, _⟩ := blkc2 kw
 refine bodyPost_ret (v := .agg #[.int .i64 R1, .int .i64 R2]) (by simp [results, Tryz.results103, go_sem, s0, s1]) rfl ⟨rfl, (HB5.out.setCell hx6 _).setCell hx6 _⟩
theorem movesM_any (a b : Mom) (w : World) : Calls Tryz.prog 105 #[.agg #[.int .i64 a.tap, .int .i64 a.wait], .agg #[.int .i64 b.tap, .int .i64 b.wait]] w fun e' w' => e' = .returned (.bool (a.tap != b.tap)) ∧ Below w.heap.size w w' := by
 obtain ⟨a1, a2⟩ := a
 obtain ⟨b1, b2⟩ := b
 simp only
 go_enter Tryz.func105, Tryz.ntmps105
 go_wp2
 go_ret
 exact ⟨rfl, by (first|exact bwg|go_size)⟩
def TickM (f : Mom → Mom) (m : Mom) (BM k : Nat) (w : World) : Prop :=
 ∃ g, MapG Tryz.prog 27 momL okM w BM k g ∧ (∀ i, i < k → g (itr f m i) = some (.int .i64 (i : Int))) ∧ ∀ x, okM x → (∀ i, i < k → itr f m i ≠ x) → g x = none
set_option maxHeartbeats 4000000 in
set_option maxRecDepth 100000 in
theorem restM_any (r : Reg) (m : Mom) (d : Int) (XR XD : Nat) (w : World) (hr : RegV r) (hm : MomV r m) (hd : -10000 ≤ d ∧ d ≤ 10000)
    (h1 : BlkR w XR (.cells #[.int .i64 r.tgt, .int .i64 r.band, .int .i64 r.dly, .int .i64 r.stp, .int .i64 r.lo, .int .i64 r.hi] 25)) (h2 : BlkR w XD (.cells #[.int .i64 d] 3)) :
    Calls Tryz.prog 106 #[.agg #[.int .i64 m.tap, .int .i64 m.wait], .func (.func 103) #[] #[.pointer (some ⟨XR, 0, none⟩), .pointer (some ⟨XD, 0, none⟩)], .func (.func 105) #[] #[]] w
     fun e' w' => Below w.heap.size w w' ∧ ∃ T fr, Rep (tick r d) m T fr ∧ e' = .returned (.tuple #[.int .i64 ((lastM (tick r d) (mvT r d) m T : Nat) : Int), .agg #[.int .i64 (itr (tick r d) m T).tap, .int .i64 (itr (tick r d) m T).wait], .bool (decide (lastM (tick r d) (mvT r d) m T ≤ fr))]) := by
 have HV := Lib.hid (fun (k : Nat) => itr_inv (f := tick r d) (p := MomV r) (tick_valid hr d) hm k)
 have HOK := Lib.hid (fun (k : Nat) => MomV.ok hr (HV.out k))
 have HNX := Lib.hid (fun (k : Nat) (W : World) (hb : Below w.heap.size w W) => nextM_any r (itr (tick r d) m k) d XR XD W hr (HV.out k) hd ((hb.block XR h1.lt).trans h1) ((hb.block XD h2.lt).trans h2))
 have HMV := Lib.hid (fun (k : Nat) (W : World) => movesM_any (itr (tick r d) m k) (itr (tick r d) m (k + 1)) W)
 have HBD := Lib.hid (fun (T : Nat) (h : ∀ i j, i < j → j < T → itr (tick r d) m i ≠ itr (tick r d) m j) => tick_bound hr hm h)
 have HLE := Lib.hid (fun (k : Nat) => lastM_le (tick r d) (mvT r d) m k)
 have hq0 : itr (tick r d) m 0 = m := rfl
 have HNX := Lib.hid (fun (k : Nat) (W : World) (hb : Below w.heap.size w W) => show Calls Tryz.prog 103 #[.agg #[.int .i64 (itr (tick r d) m k).tap, .int .i64 (itr (tick r d) m k).wait], .pointer (some ⟨XR, 0, none⟩), .pointer (some ⟨XD, 0, none⟩)] W (fun e' w' => e' = .returned (.agg #[.int .i64 (itr (tick r d) m (k + 1)).tap, .int .i64 (itr (tick r d) m (k + 1)).wait]) ∧ Below W.heap.size W w') from HNX.out k W hb)
 have HLS := Lib.hid (fun (k : Nat) => show lastM (tick r d) (mvT r d) m (k + 1) = if ((itr (tick r d) m k).tap != (itr (tick r d) m (k + 1)).tap) = true then k + 1 else lastM (tick r d) (mvT r d) m k from by
  rw [show ((itr (tick r d) m k).tap != (itr (tick r d) m (k + 1)).tap) = mvT r d (itr (tick r d) m k) from by unfold mvT; rw [Bool.eq_iff_iff]; simp [itr]]
  rfl)
 generalize hST : itr (tick r d) m = ST at *
 generalize hLA : lastM (tick r d) (mvT r d) m = LA at *
 have HREP := Lib.hid (fun (T fr : Nat) (a : fr < T) (b : ST fr = ST T) (c : ∀ i j, i < j → j < T → ST i ≠ ST j) => show Rep (tick r d) m T fr from ⟨a, by rw [hST]; exact b, by rw [hST]; exact c⟩)
 have HST := Lib.hid hST
 have HLA0 : LA 0 = 0 := by rw [← hLA]; rfl
 clear hST hLA h1 h2
 have hmm := @run_makeMap Tryz.prog
 have hm0 : m = ST 0 := hq0.symm
 have HTK := Lib.hid (show ∀ (BM k : Nat) (W : World), TickM (tick r d) m BM k W ↔ ∃ g, MapG Tryz.prog 27 momL okM W BM k g ∧ (∀ i, i < k → g (ST i) = some (.int .i64 (i : Int))) ∧ ∀ x, okM x → (∀ i, i < k → ST i ≠ x) → g x = none from fun BM k W => by unfold TickM; rw [HST.out])
 obtain ⟨mt, mw⟩ := m
 simp only at hm0 ⊢
 have HM0 := Lib.hid hm0
 clear hm0 hq0 hr hm hd
 go_enter Tryz.func106, Tryz.ntmps106
 go_wp2_with fail
 obtain ⟨w3, hW3⟩ : ∃ w3, w3 = ((w.alloc (Obj.cells #[.int .i64 mt, .int .i64 mw] 27)).alloc (Obj.cells #[.int .i64 0, .int .i64 0] 27)).alloc (Obj.map #[] 0) := ⟨_, rfl⟩
 rw [← hW3]
 obtain ⟨X3, hX3⟩ : ∃ X, X = w.heap.size := ⟨_, rfl⟩
 obtain ⟨X7, hX7⟩ : ∃ X, X = w.heap.size + 1 := ⟨_, rfl⟩
 obtain ⟨BM, hBM⟩ : ∃ X, X = w.heap.size + 1 + 1 := ⟨_, rfl⟩
 simp only [← hBM]
 simp only [← hX7]
 simp only [← hX3]
 have hb3 : Below w.heap.size w w3 := by rw [hW3]; (first|exact bwg|go_size)
 have k3 : BlkR w3 X3 (.cells #[.int .i64 mt, .int .i64 mw] 27) := by
  show w3.heap[X3]? = _
  rw [hW3, hX3, Below.heap_alloc _ _ _ (by simp; omega), Below.heap_alloc _ _ _ (by simp)]
  exact heap_alloc_new _ _
 have k7 : BlkR w3 X7 (.cells #[.int .i64 0, .int .i64 0] 27) := by
  show w3.heap[X7]? = _
  rw [hW3, hX7, Below.heap_alloc _ _ _ (by simp)]
  have := heap_alloc_new (w.alloc (Obj.cells #[.int .i64 mt, .int .i64 mw] 27)) (Obj.cells #[.int .i64 0, .int .i64 0] 27)
  simpa using this
 have hmk : TickM (tick r d) ⟨mt, mw⟩ BM 0 w3 := by
  rw [HTK.out]
  refine ⟨fun _ => none, ?_, fun i hi => absurd hi (Nat.not_lt_zero _), fun _ _ _ => rfl⟩
  have := MapG.made (P := Tryz.prog) (K := 27) (kl := momL) (ok := okM) ((w.alloc (Obj.cells #[.int .i64 mt, .int .i64 mw] 27)).alloc (Obj.cells #[.int .i64 0, .int .i64 0] 27))
  rw [← hW3] at this
  simpa [hBM] using this
 have k3' : BlkR w3 X3 (.cells #[.int .i64 (ST 0).tap, .int .i64 (ST 0).wait] 27) := by rw [← HM0.out]; exact k3
 have hwX : w.heap.size ≤ X3 := by omega
 have hwX7 : w.heap.size ≤ X7 := by omega
 have hwB : w.heap.size ≤ BM := by omega
 have n37 : X3 ≠ X7 := by omega
 clear hW3 hX3 hX7 hBM k3 hmm
 go_loopw [10, 11] (fun a b wr => ∃ k : Nat, a = .int .i64 ((LA k : Nat) : Int) ∧ b = .int .i64 (k : Int) ∧ Hid (∀ i j, i < j → j < k → ST i ≠ ST j) ∧ Hid (BlkR wr X3 (.cells #[.int .i64 (ST k).tap, .int .i64 (ST k).wait] 27)) ∧ Hid (BlkR wr X7 (.cells #[.int .i64 0, .int .i64 0] 27)) ∧ Hid (TickM (tick r d) ⟨mt, mw⟩ BM k wr) ∧ Hid (Below w.heap.size w wr)) (fun _ b _ => 3300 - (intOf b).toNat)
 case atStart => exact ⟨0, by rw [HLA0]; rfl, rfl, Lib.hid (fun i j _ h => absurd h (Nat.not_lt_zero _)), Lib.hid k3', Lib.hid k7, Lib.hid hmk, Lib.hid hb3⟩
 case round =>
  clear k3' k7 hmk hb3
  obtain ⟨k, rfl, rfl, HDI, K3, K7, HTM, HB⟩ := hrel
  obtain ⟨g, hg1, hg2, hg3⟩ := (HTK.out BM k wr).1 HTM.out
  have hk32 : k ≤ 3240 := HBD.out k HDI.out
  have hlk := hg1.look_ok momKeys Tryz.underlying185 (zeroInt wr) (HOK.out k)
  unfold momV at hlk
  obtain ⟨c3, c3_1, l3⟩ := blkc2 K3.out
  have hLk : LA k ≤ k := HLE.out k
  by_cases hex : ∃ i, i < k ∧ ST i = ST k
  ·obtain ⟨fr, hfr, hfe⟩ := hex
   have hgk := hg2 fr hfr
   rw [hfe] at hgk
   rw [hgk] at hlk
   have HRX := Lib.hid (HREP.out k fr hfr hfe HDI.out)
   obtain ⟨c7, c7_1, _⟩ := blkc2 K7.out
   have f7 := blk_fz K7.out 0
   have f7_1 := blk_fz K7.out 1
   have l7 := K7.out.lt
   have HK7 := Lib.hid K7.out
   clear hg1 hg2 hg3 hgk hfr hfe
   obtain ⟨S, hS⟩ : ∃ S, S = ST k := ⟨_, rfl⟩
   rw [← hS] at hlk c3 c3_1
   have HSk := Lib.hid hS
   clear hS
   obtain ⟨s1, s2⟩ := S
   simp only [Option.getD_some, Option.isSome_some] at hlk c3 c3_1
   have ok3 : OkB X3 wr.heap.size X7 := ⟨l3, n37⟩
   go_wp2_with fail
   refine wp_region_laterC (B := wr.heap.size) (b0 :=  X7) [(true, 0), (true, 1), (true, 2), (true, 3), (true, 4), (true, 5), (false, 6), (true, 7)] (by kernel_rfl) (by kernel_rfl) ?_; simp only [opsOf, List.filterMap_cons, List.filterMap_nil, List.getElem?_toArray, List.getElem?_cons_zero, List.getElem?_cons_succ, Option.map_some]
   repeat (refine mixc_head ?_; (show wpQuiet _ _ _ _ (_ :: _) _; go_big_quiet_step (fail)); refine wpQuiet_nil ?_)
   refine mixc_tail ?_; go_wp2_with fail
   have y0 : SameX wr.heap.size X7 wr wr.drew := SameX.of_below (show Below wr.heap.size wr wr.drew by (first|exact bwg|go_size))
   have y1 := SameX.set (o := 0) y0 (.int .i64 s1)
   have y2 := SameX.set (o := 1) y1 (.int .i64 s2)
   have HY := Lib.hid y2
   clear y0 y1 y2
   refine tailC_stay HY.out ?_
   repeat (refine mixc_head ?_; (show wpQuiet _ _ _ _ (_ :: _) _; go_big_quiet_step (fail)); refine wpQuiet_nil ?_)
   refine mixc_nil ?_
   go_wp2
   have kw : BlkR ((wr.setCell ⟨X7, 0, none⟩ (.int .i64 s1)).setCell ⟨X7, 1, none⟩ (.int .i64 s2)).drew X7 (.cells #[.int .i64 s1, .int .i64 s2] 27) := show ((wr.setCell ⟨X7, 0, none⟩ (.int .i64 s1)).setCell ⟨X7, 1, none⟩ (.int .i64 s2)).heap[X7]? = _ from blk_set (blk_set HK7.out 0 _) 1 _
   obtain ⟨r0, r1, _⟩ := blkc2 kw
   refine bodyPost_ret (v := .tuple #[.int .i64 ((LA k : Nat) : Int), .agg #[.int .i64 s1, .int .i64 s2], .bool (decide (LA k ≤ fr))]) (by simp [results, Tryz.results106, go_sem, r0, r1]) rfl ⟨((HB.out.setCell hwX7 _).setCell hwX7 _).drew, k, fr, HRX.out, by rw [← HSk.out]⟩
  ·have hgn : g (ST k) = none := hg3 _ (HOK.out k) (fun i hi e => hex ⟨i, hi, e⟩)
   rw [hgn] at hlk
   obtain ⟨wU, hrunU, hmapU, hgrowU, hncU⟩ := hg1.store momKeys Tryz.underlying185 (by unfold maxLen; omega) (HOK.out k) (.int .i64 (k : Int))
   unfold momV at hrunU
   have hkeep : ∀ (kk : Nat) (o : Obj), wr.heap[kk]? = some o → (∀ es c, o ≠ .map es c) → wU.heap[kk]? = some o := fun kk o hk ho => (hgrowU.block kk (Array.getElem?_eq_some_iff.1 hk).1 (by have := hg1.ne hk ho; simp only [ne_eq, Option.some.injEq]; exact this)).trans hk
   have K3U := Lib.hid (show BlkR wU X3 _ from hkeep X3 _ K3.out (fun _ _ h => by cases h))
   have K7U := Lib.hid (show BlkR wU X7 _ from hkeep X7 _ K7.out (fun _ _ h => by cases h))
   have HBU := Lib.hid (HB.out.grown hgrowU HB.out.size (fun kk hk => by simp only [Option.some.injEq] at hk; omega))
   have HTU := Lib.hid (show TickM (tick r d) ⟨mt, mw⟩ BM (k + 1) wU from by
    rw [HTK.out]
    refine ⟨_, hmapU, fun i hi => ?_, fun x hx hne => ?_⟩
    ·show (if ST i = ST k then _ else g (ST i)) = _
     rcases Nat.lt_or_ge i k with h | h
     ·rw [if_neg (fun e => hex ⟨i, h, e⟩)]; exact hg2 i h
     ·obtain rfl : i = k := by omega
      rw [if_pos rfl]
    ·show (if x = ST k then _ else g x) = _
     rw [if_neg (fun e => hne k (by omega) e.symm)]
     exact hg3 x hx (fun i hi => hne i (by omega)))
   have HDN := Lib.hid (show ∀ i j, i < j → j < k + 1 → ST i ≠ ST j from fun i j hij hj e => by
    rcases Nat.lt_or_ge j k with h | h
    ·exact HDI.out i j hij h e
    ·obtain rfl : j = k := by omega
     exact hex ⟨i, hij, e⟩)
   obtain ⟨c3U, c3U_1, l3U⟩ := blkc2 K3U.out
   have HNXk := Lib.hid (HNX.out k wU HBU.out)
   clear hg1 hg2 hg3 hgn hmapU hgrowU hncU hkeep hex K3 K7 HTM HB
   have w1 : IntKind.i64.wrap ((k : Int) + 1) = (k : Int) + 1 := by rw [IntKind.wrap_i64]; omega
   have HLK := Lib.hid (HLS.out k)
   obtain ⟨S0, hS0⟩ : ∃ S, S = ST k := ⟨_, rfl⟩
   obtain ⟨S1, hS1⟩ : ∃ S, S = ST (k + 1) := ⟨_, rfl⟩
   have HM2 := Lib.hid (HMV.out k)
   rw [← hS0] at hlk hrunU c3 c3_1 c3U c3U_1
   rw [← hS0, ← hS1] at HNXk HLK
   have HMVV := Lib.hid (fun (W : World) => movesM_any S0 S1 W)
   have HS1 := Lib.hid hS1
   have HS0 := Lib.hid hS0
   clear hS0 hS1 HM2
   obtain ⟨s1, s2⟩ := S0
   obtain ⟨t1, t2⟩ := S1
   simp only [Option.getD_none, Option.isSome_none] at hlk hrunU c3 c3_1 c3U c3U_1 HNXk HLK HMVV
   go_wp2_with fail
   refine HNXk.out.mono ?_
   rintro e5 w5 ⟨rfl, hb5⟩
   have K3 := Lib.hid (show BlkR w5 X3 (.cells #[.int .i64 s1, .int .i64 s2] 27) from by have h := K3U.out.below hb5; rw [← HS0.out] at h; exact h)
   have K7 := Lib.hid (K7U.out.below hb5)
   have HB := bwt HBU hb5
   have HTM := Lib.hid (show TickM (tick r d) ⟨mt, mw⟩ BM (k + 1) w5 from by
    obtain ⟨g, q1, q2, q3⟩ := (HTK.out _ _ _).1 HTU.out
    exact (HTK.out _ _ _).2 ⟨g, q1.below hb5, q2, q3⟩)
   clear hb5 c3 c3_1 c3U c3U_1 l3 l3U hlk hrunU K3U K7U HBU HTU HNXk
   obtain ⟨MB, hMB⟩ : ∃ MB, MB = (s1 != t1) := ⟨_, rfl⟩
   rw [← hMB] at HMVV HLK
   obtain ⟨c3, c3_1, l3⟩ := blkc2 K3.out
   clear hMB
   go_wp2_with fail
   obtain ⟨w6, hW6⟩ : ∃ w6, w6 = w5.alloc (Obj.cells #[.int .i64 t1, .int .i64 t2] 27) := ⟨_, rfl⟩
   rw [← hW6]
   have hb6 : Below w5.heap.size w5 w6 := by rw [hW6]; (first|exact bwg|go_size)
   have k14 : BlkR w6 w5.heap.size (.cells #[.int .i64 t1, .int .i64 t2] 27) := by show w6.heap[w5.heap.size]? = _; rw [hW6]; exact heap_alloc_new _ _
   obtain ⟨X14, hX14⟩ : ∃ X, X = w5.heap.size := ⟨_, rfl⟩
   rw [← hX14] at k14
   simp only [← hX14]
   refine (HMVV.out _).mono ?_
   rintro e7 w7 ⟨rfl, hb7⟩
   have hb67 := hb6.trans (hb7.mono hb6.size)
   have K14 := Lib.hid (k14.below hb7)
   have K3 := Lib.hid (K3.out.below hb67)
   have K7 := Lib.hid (K7.out.below hb67)
   have HB := bwt HB hb67
   have HTM := Lib.hid (show TickM (tick r d) ⟨mt, mw⟩ BM (k + 1) w7 from by
    obtain ⟨g, q1, q2, q3⟩ := (HTK.out _ _ _).1 HTM.out
    exact (HTK.out _ _ _).2 ⟨g, q1.below hb67, q2, q3⟩)
   clear c3 c3_1 l3
   obtain ⟨c3, c3_1, _⟩ := blkc2 K3.out
   have f3 := blk_fz K3.out 0
   have f3_1 := blk_fz K3.out 1
   have l3 := K3.out.lt
   obtain ⟨d14, d14_1, l14⟩ := blkc2 K14.out
   clear hW6 hb6 hb7 hb67 k14 hX14
   cases MB
   all_goals
    go_wp2_with fail
    go_roundw
    case rel =>
     refine ⟨k + 1, by rw [HLK.out]; simp, by go_num, HDN, Lib.hid ?_, Lib.hid ((heap_set_neI (by omega)).trans ((heap_set_neI (by omega)).trans K7.out)), Lib.hid ?_, Lib.hid ((HB.out.setCell hwX _).setCell hwX _)⟩
     ·rw [← HS1.out]; exact blk_set (blk_set K3.out 0 _) 1 _
     ·obtain ⟨g, q1, q2, q3⟩ := (HTK.out _ _ _).1 HTM.out
      exact (HTK.out _ _ _).2 ⟨g, (q1.set K3.out).set (blk_set K3.out 0 _), q2, q3⟩
    case measure => simp [intOf]; omega
end Go.Proofs.YtdjinmieogpgcaaGreat
