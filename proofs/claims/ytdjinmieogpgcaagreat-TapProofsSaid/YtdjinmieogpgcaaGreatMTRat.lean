import Derived.Test.YtdjinmieogpgcaaGreatMRat2
/- Quotients in memory whose digits lie outside the caller's own cells. -/
namespace Go.Proofs.YtdjinmieogpgcaaGreat
open Go.RowKit
set_option linter.unusedVariables false
theorem rb_of (x y : Int) (w : World) (hy : y ≠ 0) (h0 : -9223372036854775807 ≤ x) (h1 : x ≤ 9223372036854775807) (h2 : -9223372036854775807 ≤ y) (h3 : y ≤ 9223372036854775807) : Calls Tryz.prog 149 #[.int .i64 x, .int .i64 y] w (RBPost w (Rat.divInt x y)) :=
 (ratioOf_any x y w hy h0 h1 h2 h3).mono (fun _ _ ⟨_, he, hb, h⟩ => RBPost.mk he hb h)
def RA (A : Nat → Prop) (w : World) (v : Value) (q : Rat) : Prop := RatioR (fun b => ¬ A b ∧ b < w.heap.size) w v q
theorem RA.below {A : Nat → Prop} {w w' : World} {v : Value} {q : Rat} (h : RA A w v q) (hb : Below w.heap.size w w') : RA A w' v q :=
 (RatioR.below h hb).mono (fun b hlt => ⟨hlt.1, Nat.lt_of_lt_of_le hlt.2 hb.size⟩)
theorem RA.rb {A : Nat → Prop} {w : World} {v : Value} {q : Rat} (h : RA A w v q) : RB w v q := RatioR.mono h (fun b hb => hb.2)
theorem RA.new {A : Nat → Prop} {w0 w : World} {v : Value} {q : Rat} (h : RatioR (fun b => w0.heap.size ≤ b) w v q) (hA : ∀ b, A b → b < w0.heap.size) : RA A w v q :=
 RatioR.mono (RatioR.here h) (fun b hb => ⟨fun h => by have := hA b h; have := hb.1; omega, hb.2⟩)
theorem RA.kept {A : Nat → Prop} {w w' : World} {v : Value} {q : Rat} (h : RA A w v q) (hs : w.heap.size ≤ w'.heap.size) (hb : ∀ b, ¬ A b → b < w.heap.size → w'.heap[b]? = w.heap[b]?) : RA A w' v q :=
 RatioR.mono (RatioR.kept (w := w) h hs (fun b hp => hb b hp.1 hp.2)) (fun b hb => ⟨hb.1, by omega⟩)
abbrev set4 (w : World) (X : Nat) (v0 v1 v2 v3 : Value) : World := (((w.setCell ⟨X, 0, none⟩ v0).setCell ⟨X, 1, none⟩ v1).setCell ⟨X, 2, none⟩ v2).setCell ⟨X, 3, none⟩ v3
theorem set4_size (w : World) (X : Nat) (v0 v1 v2 v3 : Value) : (set4 w X v0 v1 v2 v3).heap.size = w.heap.size := by simp [set4]
theorem set4_other (w : World) (X b : Nat) (v0 v1 v2 v3 : Value) (h : b ≠ X) : (set4 w X v0 v1 v2 v3).heap[b]? = w.heap[b]? := by
 unfold set4
 rw [Go.Deep.blk_setCell_other _ _ _ _ (by simpa using h), Go.Deep.blk_setCell_other _ _ _ _ (by simpa using h), Go.Deep.blk_setCell_other _ _ _ _ (by simpa using h), Go.Deep.blk_setCell_other _ _ _ _ (by simpa using h)]
theorem set4_same {w : World} {X t : Nat} {x0 x1 x2 x3 : Value} (h : w.heap[X]? = some (.cells #[x0, x1, x2, x3] t)) (v0 v1 v2 v3 : Value) : (set4 w X v0 v1 v2 v3).heap[X]? = some (.cells #[v0, v1, v2, v3] t) := by
 have h0 : (w.setCell ⟨X, 0, none⟩ v0).heap[X]? = some (.cells #[v0, x1, x2, x3] t) := by rw [blk_set h 0 v0]; rfl
 have h1 : ((w.setCell ⟨X, 0, none⟩ v0).setCell ⟨X, 1, none⟩ v1).heap[X]? = some (.cells #[v0, v1, x2, x3] t) := by rw [blk_set h0 1 v1]; rfl
 have h2 : (((w.setCell ⟨X, 0, none⟩ v0).setCell ⟨X, 1, none⟩ v1).setCell ⟨X, 2, none⟩ v2).heap[X]? = some (.cells #[v0, v1, v2, x3] t) := by rw [blk_set h1 2 v2]; rfl
 have h3 : ((((w.setCell ⟨X, 0, none⟩ v0).setCell ⟨X, 1, none⟩ v1).setCell ⟨X, 2, none⟩ v2).setCell ⟨X, 3, none⟩ v3).heap[X]? = some (.cells #[v0, v1, v2, v3] t) := by rw [blk_set h2 3 v3]; rfl
 exact h3
theorem set4_below {w0 w : World} {B X : Nat} (h : Below B w0 w) (hX : B ≤ X) (v0 v1 v2 v3 : Value) : Below B w0 (set4 w X v0 v1 v2 v3) := (((h.setCell hX _).setCell hX _).setCell hX _).setCell hX _
theorem RA.put {A : Nat → Prop} {w : World} {v : Value} {q : Rat} (h : RA A w v q) {X : Nat} (hX : A X) (v0 v1 v2 v3 : Value) : RA A (set4 w X v0 v1 v2 v3) v q :=
 RA.kept h (by rw [set4_size]; exact Nat.le_refl _) (fun b hb _ => set4_other w X b v0 v1 v2 v3 (fun e => hb (e ▸ hX)))
structure Qv where
 s : Int
 a : Option Addr
 n : Nat
 c : Nat
 t : Int
 b : Option Addr
 m : Nat
 d : Nat
def Qv.val (x : Qv) : Value := .agg #[.int .i64 x.s, .slice x.a x.n x.c, .int .i64 x.t, .slice x.b x.m x.d]
def Qv.row (x : Qv) : Array Value := #[.int .i64 x.s, .slice x.a x.n x.c, .int .i64 x.t, .slice x.b x.m x.d]
theorem put4_new {w0 w7 w : World} {X : Nat} {v : Value} {q : Rat} (h : RatioR (fun b => w7.heap.size ≤ b) w v q) (h0 : w0.heap.size ≤ w7.heap.size) (hX : X < w7.heap.size) (v0 v1 v2 v3 : Value) : RatioR (fun b => w0.heap.size ≤ b) (set4 w X v0 v1 v2 v3) v q :=
 RatioR.mono (RatioR.kept (w := w) h.here (by rw [set4_size]; exact Nat.le_refl _) (fun b hb => set4_other w X b v0 v1 v2 v3 (by have := hb.1; omega))) (fun b hb => by have := hb.1; omega)
def own3 (x y z b : Nat) : Prop := b = x ∨ b = y ∨ b = z
theorem alc2 (w : World) (o1 o2 : Obj) : Below w.heap.size w ((w.alloc o1).alloc o2) ∧ BlkR ((w.alloc o1).alloc o2) w.heap.size o1 ∧ BlkR ((w.alloc o1).alloc o2) (w.heap.size + 1) o2 := by
 refine ⟨by (first|exact bwg|go_size), ?_, ?_⟩
 ·show _ = _
  rw [Below.heap_alloc _ _ _ (by simp)]
  exact heap_alloc_new _ _
 ·have := heap_alloc_new (w.alloc o1) o2
  show _ = _
  simpa using this
/- The voltage of the output in the reference: the walk. -/
open Go.RowKit Go.Shelf
set_option linter.unusedSimpArgs false
attribute [local go_sem] Oper.semAt_some
set_option maxRecDepth 100000 in
theorem tapVoltage_any (m : Mac) (l : Lim) (k : Nat) (ab ag : Option Addr) (nb cb ng cg : Nat) (w : World) (hm : MacV m) (hb : BrR w ab nb m.br) (hl : 0 ≤ l.volt ∧ l.volt ≤ 1000) (hk : k < nb) :
    Calls Tryz.prog 120 #[.agg #[.slice ab nb cb, .int .i64 m.st, .slice ag ng cg], .agg #[.int .i64 l.volt, .int .i64 l.lo, .int .i64 l.hi, .int .i64 l.circ, .int .i64 l.brk, .int .i64 l.ret], .int .i64 (k : Int)] w fun e' w' => e' = .returned (.int .i64 (volA m l k)) ∧ Below w.heap.size w w' := by
 have hkl : k < m.br.length := by rw [hb.len]; exact hk
 obtain ⟨v0, v1⟩ := vol_bd hm hl hkl
 obtain ⟨bb, ob, rfl, hbb, hcc⟩ := hb.addr (by omega)
 obtain ⟨c0, c1⟩ := hcc k hk
 unfold volA at v0 v1 ⊢
 have w1 : IntKind.i64.wrap ((bAt m.br k).tap * l.volt) = (bAt m.br k).tap * l.volt := by rw [IntKind.wrap_i64]; omega
 have i0 : (0 : Int) ≤ (k : Int) := by omega
 have i1 : (k : Int) < (nb : Int) := by omega
 generalize (bAt m.br k).tap = t at *
 obtain ⟨st, hst⟩ : ∃ x, x = m.st := ⟨_, rfl⟩
 rw [← hst]
 obtain ⟨vo, lo, hi, ci, br, re⟩ := l
 simp only at v0 v1 w1 ⊢
 clear hb hcc hm hl hst c1 v0 v1 hkl
 go_enter Tryz.func120, Tryz.ntmps120
 go_wp2_with fail
 obtain ⟨w1, hW⟩ : ∃ w1, w1 = ((w.alloc (Obj.cells #[.slice (some ⟨bb, ob, none⟩) nb cb, .int .i64 st, .slice ag ng cg] 45)).alloc (Obj.cells #[.int .i64 vo, .int .i64 lo, .int .i64 hi, .int .i64 ci, .int .i64 br, .int .i64 re] 47)) := ⟨_, rfl⟩
 obtain ⟨hb1, k4, k5⟩ := alc2 w (Obj.cells #[.slice (some ⟨bb, ob, none⟩) nb cb, .int .i64 st, .slice ag ng cg] 45) (Obj.cells #[.int .i64 vo, .int .i64 lo, .int .i64 hi, .int .i64 ci, .int .i64 br, .int .i64 re] 47)
 rw [← hW] at hb1 k4 k5
 obtain ⟨X4, hX4⟩ : ∃ X, X = w.heap.size := ⟨_, rfl⟩
 obtain ⟨X5, hX5⟩ : ∃ X, X = w.heap.size + 1 := ⟨_, rfl⟩
 rw [← hX5] at k5
 have k4 : BlkR w1 X4 (.cells #[.slice (some ⟨bb, ob, none⟩) nb cb, .int .i64 st, .slice ag ng cg] 45) := by rw [hX4]; exact k4
 have K4 := Lib.hid k4
 have K5 := Lib.hid k5
 have HB1 := Lib.hid hb1
 clear k4 k5 hb1
 have c0 : w1.cell? ⟨bb, ob + k * 2, none⟩ = some (.int .i64 t) := by rw [cellB HB1.out _ _ hbb]; exact c0
 have lbb : bb < w1.heap.size := Nat.lt_of_lt_of_le hbb HB1.out.size
 have q0 := blk_cell K4.out (i := 0) rfl
 have u0 := blk_cell K5.out (i := 0) rfl
 have l4 := K4.out.lt
 have l5 := K5.out.lt
 rw [← hW]
 simp only [← hX5]
 simp only [← hX4]
 clear hW hX4 hX5
 go_wp2_with fail
 refine later_all (by kernel_rfl) (by kernel_rfl) ?_; repeat go_big_quiet_step(fail)
 refine wpQuiet_nil ?_; intro w5 hb5
 have HB5 := bwt HB1 hb5
 clear hb5
 go_wp2
 go_ret
 exact ⟨ret_int rfl, HB5.out⟩
set_option maxHeartbeats 4000000 in
set_option maxRecDepth 100000 in
theorem routput_any (m : Mac) (l : Lim) (s : Nat) (load : Int) (ab ag : Option Addr) (nb cb ng cg : Nat) (w : World) (hb : BrR w ab nb m.br) (he : ElV m l s load) :
    Calls Tryz.prog 121 #[.agg #[.slice ab nb cb, .int .i64 m.st, .slice ag ng cg], .agg #[.int .i64 l.volt, .int .i64 l.lo, .int .i64 l.hi, .int .i64 l.circ, .int .i64 l.brk, .int .i64 l.ret], .int .i64 (s : Int), .int .i64 load] w (RBPost w (outQ m l s load)) := by
 have hn6 : nb ≤ 6 := by rw [← hb.len]; exact he.hm.n1
 have hs64 := he.s64
 obtain ⟨d0, d1⟩ := he.hd
 have HTV := Lib.hid (fun (k : Nat) (hk : k < nb) (W : World) (hbw : Below w.heap.size w W) => tapVoltage_any m l k ab ag nb cb ng cg W he.hm (hb.below hbw) he.hl hk)
 have HIC := Lib.hid (fun (i : Nat) (hi : i < nb) w' => isClosed_any s i w' hs64 (by omega))
 have HBR := Lib.hid (fun (W : World) (hbw : Below w.heap.size w W) => hb.below hbw)
 have HBV := Lib.hid (fun (i : Nat) (hi : i < nb) => he.hm.br i (by rw [hb.len]; exact hi))
 have HVB := Lib.hid (fun (i : Nat) (hi : i < nb) => vol_bd he.hm he.hl (k := i) (by rw [hb.len]; exact hi))
 have HSM := Lib.hid (fun (L : List Nat) (hL : ∀ k ∈ L, k < nb ∧ (bAt m.br k).res ≠ 0) => sums_bd he.hm he.hl he.hd L (fun k hk => ⟨by rw [hb.len]; exact (hL k hk).1, (hL k hk).2⟩))
 have H6 := Lib.hid (show cloU s 6 = cloU s nb from cloU_six nb (by omega) s (by rw [← hb.len]; exact he.hs))
 have HNE := Lib.hid (clo_ne s hs64 he.h0)
 obtain ⟨st, hst⟩ : ∃ x, x = m.st := ⟨_, rfl⟩
 rw [← hst] at HTV ⊢
 have hw1 : IntKind.i64.wrap (-load) = -load := by rw [IntKind.wrap_i64]; omega
 have HQI := Lib.hid (And.intro (sumQ_nil m l load) (conQ_nil m))
 have HQS := Lib.hid (fun (k : Nat) (L : List Nat) h1 h2 => And.intro (sumQ_snoc (m := m) (k := k) l load L h1 h2) (conQ_snoc (m := m) (k := k) L h1 h2))
 have HOR := Lib.hid (fun (k : Nat) h => outQ_res (m := m) (l := l) (s := s) (load := load) (k := k) h)
 have HOD := Lib.hid (fun h1 h2 => outQ_div (m := m) (l := l) (s := s) (load := load) h1 h2)
 have HCN := Lib.hid (fun h => conQ_ne (m := m) (L := cloU s 6) h)
 generalize outQ m l s load = OQ at *
 clear hb he hst
 obtain ⟨vo, lo, hi', ci, br, re⟩ := l
 simp only at HTV ⊢
 go_enter Tryz.func121, Tryz.ntmps121
 go_wp2_with fail
 obtain ⟨w1, hW⟩ : ∃ w1, w1 = ((w.alloc (Obj.cells #[.slice ab nb cb, .int .i64 st, .slice ag ng cg] 45)).alloc (Obj.cells #[.int .i64 vo, .int .i64 lo, .int .i64 hi', .int .i64 ci, .int .i64 br, .int .i64 re] 47)) := ⟨_, rfl⟩
 obtain ⟨hb1, k4, k5⟩ := alc2 w (Obj.cells #[.slice ab nb cb, .int .i64 st, .slice ag ng cg] 45) (Obj.cells #[.int .i64 vo, .int .i64 lo, .int .i64 hi', .int .i64 ci, .int .i64 br, .int .i64 re] 47)
 rw [← hW] at hb1 k4 k5
 obtain ⟨X4, hX4⟩ : ∃ X, X = w.heap.size := ⟨_, rfl⟩
 obtain ⟨X5, hX5⟩ : ∃ X, X = w.heap.size + 1 := ⟨_, rfl⟩
 rw [← hX5] at k5
 have k4 : BlkR w1 X4 (.cells #[.slice ab nb cb, .int .i64 st, .slice ag ng cg] 45) := by rw [hX4]; exact k4
 have K4 := Lib.hid k4
 have K5 := Lib.hid k5
 have HB1 := Lib.hid hb1
 clear k4 k5 hb1
 rw [← hW]
 obtain ⟨w1b, hWb⟩ : ∃ w1b, w1b = w1.alloc (Obj.cells #[.int .i64 0, .slice none 0 0, .int .i64 0, .slice none 0 0] 174) := ⟨_, rfl⟩
 rw [← hWb]
 have hb1 : Below w1.heap.size w1 w1b := by rw [hWb]; (first|exact bwg|go_size)
 have k8 : BlkR w1b w1.heap.size (.cells #[.int .i64 0, .slice none 0 0, .int .i64 0, .slice none 0 0] 174) := by
  show w1b.heap[w1.heap.size]? = _
  rw [hWb]
  exact heap_alloc_new _ _
 have hsz : w1.heap.size = w.heap.size + 1 + 1 := by rw [hW]; simp
 obtain ⟨X8, hX8⟩ : ∃ X, X = w.heap.size + 1 + 1 := ⟨_, rfl⟩
 rw [hsz, ← hX8] at k8
 simp only [← hX8]
 simp only [← hX5]
 simp only [← hX4]
 have hx8 : w.heap.size ≤ X8 := by omega
 have h48 : X4 < X8 ∧ X5 < X8 := by omega
 have K4 := Lib.hid (K4.out.below hb1)
 have K5 := Lib.hid (K5.out.below hb1)
 have K8 := Lib.hid k8
 have HB1 := bwt HB1 hb1
 clear hW hWb hX4 hX5 hX8 hb1 hsz k8
 obtain ⟨w1, rfl⟩ : ∃ w', w' = w1b := ⟨w1b, rfl⟩
 refine (rb_int (-load) w1 (by omega) (by omega)).mono ?_
 rintro ex w2 ⟨sA, aA, nA, cA, tA, bA, mA, dA, rfl, hb2, _, hA⟩
 go_wp2_with fail
 refine (rb_int 0 w2 (by omega) (by omega)).mono ?_
 rintro ex w3 ⟨sB, aB, nB, cB, tB, bB, mB, dB, rfl, hb3, _, hB⟩
 go_wp2_with fail
 obtain ⟨w4, hW4⟩ : ∃ w4, w4 = (w3.alloc (Obj.cells #[.int .i64 sA, .slice aA nA cA, .int .i64 tA, .slice bA mA dA] 174)).alloc (Obj.cells #[.int .i64 sB, .slice aB nB cB, .int .i64 tB, .slice bB mB dB] 174) := ⟨_, rfl⟩
 rw [← hW4]
 have hb4 : Below w3.heap.size w3 w4 := by rw [hW4]; (first|exact bwg|go_size)
 have k9 : BlkR w4 w3.heap.size (.cells #[.int .i64 sA, .slice aA nA cA, .int .i64 tA, .slice bA mA dA] 174) := by
  have hba : Below (w3.alloc (Obj.cells #[.int .i64 sA, .slice aA nA cA, .int .i64 tA, .slice bA mA dA] 174)).heap.size (w3.alloc (Obj.cells #[.int .i64 sA, .slice aA nA cA, .int .i64 tA, .slice bA mA dA] 174)) w4 := by rw [hW4]; (first|exact bwg|go_size)
  exact BlkR.below (w := w3.alloc (Obj.cells #[.int .i64 sA, .slice aA nA cA, .int .i64 tA, .slice bA mA dA] 174)) (heap_alloc_new _ _) hba
 have k10 : BlkR w4 (w3.heap.size + 1) (.cells #[.int .i64 sB, .slice aB nB cB, .int .i64 tB, .slice bB mB dB] 174) := by
  show w4.heap[w3.heap.size + 1]? = _
  rw [hW4]
  have := heap_alloc_new (w3.alloc (Obj.cells #[.int .i64 sA, .slice aA nA cA, .int .i64 tA, .slice bA mA dA] 174)) (Obj.cells #[.int .i64 sB, .slice aB nB cB, .int .i64 tB, .slice bB mB dB] 174)
  simpa using this
 obtain ⟨X9, hX9⟩ : ∃ X, X = w3.heap.size := ⟨_, rfl⟩
 obtain ⟨X10, hX10⟩ : ∃ X, X = w3.heap.size + 1 := ⟨_, rfl⟩
 rw [← hX10] at k10
 rw [← hX9] at k9
 simp only [← hX10]
 simp only [← hX9]
 have hz3 : w1.heap.size ≤ w3.heap.size := Nat.le_trans hb2.size hb3.size
 have l8 := K8.out.lt
 have hx9 : w1.heap.size ≤ X9 := by omega
 have hx10 : w1.heap.size ≤ X10 := by omega
 have h910 : X8 < X9 ∧ X9 < X10 := by omega
 have l10 : X10 < w4.heap.size := k10.lt
 have hA0 : ∀ b, own3 X8 X9 X10 b → b < w4.heap.size := fun b hb => by unfold own3 at hb; omega
 have RA0 : RA (own3 X8 X9 X10) w4 (Qv.val ⟨sA, aA, nA, cA, tA, bA, mA, dA⟩) (sumQ m ⟨vo, lo, hi', ci, br, re⟩ load []) := by
  rw [HQI.out.1]
  have h1 := RatioR.below (RatioR.here hA.out) (hb3.trans (hb4.mono hb3.size))
  exact RatioR.mono h1 (fun b hb => ⟨fun h => by unfold own3 at h; have := hb3.size; have := hb2.size; omega, by have := hb3.size; omega⟩)
 have RB0 : RA (own3 X8 X9 X10) w4 (Qv.val ⟨sB, aB, nB, cB, tB, bB, mB, dB⟩) (conQ m []) := by
  rw [HQI.out.2]
  have h1 := RatioR.below (RatioR.here hB.out) hb4
  exact RatioR.mono h1 (fun b hb => ⟨fun h => by unfold own3 at h; have := hb3.size; have := hb2.size; omega, by have := hb3.size; omega⟩)
 have hb14 : Below w1.heap.size w1 w4 := hb2.trans (((hb3.trans (hb4.mono hb3.size))).mono hb2.size)
 have K9 := Lib.hid k9
 have K10 := Lib.hid k10
 have HRA := Lib.hid RA0
 have HRB := Lib.hid RB0
 have HB14 := Lib.hid hb14
 clear hW4 hX9 hX10 hb2 hb3 hb4 hA hB k9 k10 RA0 RB0 hb14 hz3 HQI hw1
 go_loopw [11] (fun x wr => ∃ (i : Nat) (u v : Qv), x = .int .i64 (i : Int) ∧ i ≤ nb ∧ Hid (BlkR wr X9 (.cells u.row 174)) ∧ Hid (BlkR wr X10 (.cells v.row 174)) ∧ Hid (RA (own3 X8 X9 X10) wr u.val (sumQ m ⟨vo, lo, hi', ci, br, re⟩ load (cloU s i))) ∧ Hid (RA (own3 X8 X9 X10) wr v.val (conQ m (cloU s i))) ∧ Hid (∀ j ∈ cloU s i, isRes m j = false) ∧ Hid (Below w1.heap.size w1 wr)) (fun x _ => nb - (intOf x).toNat)
 case atStart => exact ⟨0, ⟨sA, aA, nA, cA, tA, bA, mA, dA⟩, ⟨sB, aB, nB, cB, tB, bB, mB, dB⟩, rfl, Nat.zero_le _, K9, K10, HRA, HRB, Lib.hid (fun j h => by simp [cloU] at h), HB14⟩
 case round =>
  clear K9 K10 HRA HRB HB14 l10 hA0
  obtain ⟨i, ⟨s9, a9, n9, c9, t9, b9, m9, d9⟩, ⟨s0, a0, n0, c0, t0, b0, m0, d0'⟩, rfl, hi, K9, K10, HRA, HRB, HNR, HBx⟩ := hrel
  have i0 : (0 : Int) ≤ (i : Int) := by omega
  have K4 := Lib.hid (K4.out.below HBx.out)
  have K5 := Lib.hid (K5.out.below HBx.out)
  have K8 := Lib.hid (K8.out.below HBx.out)
  have HBw := bwt HB1 HBx.out
  have K9 := Lib.hid (show BlkR wr X9 (.cells #[.int .i64 s9, .slice a9 n9 c9, .int .i64 t9, .slice b9 m9 d9] 174) from K9.out)
  have K10 := Lib.hid (show BlkR wr X10 (.cells #[.int .i64 s0, .slice a0 n0 c0, .int .i64 t0, .slice b0 m0 d0'] 174) from K10.out)
  have HRA := Lib.hid (show RA (own3 X8 X9 X10) wr (.agg #[.int .i64 s9, .slice a9 n9 c9, .int .i64 t9, .slice b9 m9 d9]) _ from HRA.out)
  have HRB := Lib.hid (show RA (own3 X8 X9 X10) wr (.agg #[.int .i64 s0, .slice a0 n0 c0, .int .i64 t0, .slice b0 m0 d0']) _ from HRB.out)
  by_cases hlt : i < nb
  ·have i1 : (i : Int) < (nb : Int) := by omega
   have HTVI := Lib.hid (HTV.out i hlt)
   obtain ⟨bb, ob, rfl, hbb, hcc⟩ := (HBR.out _ HBw.out).addr (by omega)
   obtain ⟨_, c1⟩ := hcc i hlt
   obtain ⟨_, r0, r1⟩ := HBV.out i hlt
   obtain ⟨v0, v1⟩ := HVB.out i hlt
   have HICX := Lib.hid (HIC.out i hlt)
   obtain ⟨mb, hmb⟩ : ∃ b, b = s.testBit i := ⟨_, rfl⟩
   rw [← hmb] at HICX
   have HMB := Lib.hid hmb
   obtain ⟨rr, hrr⟩ : ∃ r, r = (bAt m.br i).res := ⟨_, rfl⟩
   rw [← hrr] at c1 r0 r1
   have HRR := Lib.hid hrr
   clear hmb hrr hcc
   obtain ⟨q0, q1, q2, _⟩ := blkc3 K4.out
   obtain ⟨u0, u1, u2, u3, u4, u5, _⟩ := blkc6 K5.out
   have l4 := K4.out.lt
   have l5 := K5.out.lt
   cases mb
   ·go_wp2_with fail
    refine (HICX.out _).mono ?_
    rintro e5 w5 ⟨rfl, rfl⟩
    go_wp2_with fail
    go_roundw
    case rel => exact ⟨i + 1, ⟨s9, a9, n9, c9, t9, b9, m9, d9⟩, ⟨s0, a0, n0, c0, t0, b0, m0, d0'⟩, by go_num, by omega, K9, K10, by rw [cloU_no HMB.out.symm]; exact HRA, by rw [cloU_no HMB.out.symm]; exact HRB, by rw [cloU_no HMB.out.symm]; exact HNR, HBx⟩
    case measure => simp [intOf]; omega
   ·by_cases hr : rr = 0
    ·subst hr
     go_wp2_with fail
     refine (HICX.out _).mono ?_
     rintro e5 w5 ⟨rfl, rfl⟩
     go_wp2_with fail
     refine (HTVI.out _ HBw.out).mono ?_
     rintro e6 w6 ⟨rfl, hb6⟩
     go_wp2_with fail
     refine (rb_int _ w6 (by omega) (by omega)).mono ?_
     rintro e7 w7 ⟨sC, aC, nC, cC, tC, bC, mC, dC, rfl, hb7, _, hC⟩
     have HOX := HOR.out i (find_clo HMB.out.symm HNR.out (by unfold isRes; rw [← HRR.out]; rfl) 6 (by omega))
     rw [← HOX] at hC
     have HC := Lib.hid hC
     have HBZ := Lib.hid (HBw.out.trans ((hb6.trans (hb7.mono hb6.size)).mono HBw.out.size))
     have l86 : X8 < w6.heap.size := Nat.lt_of_lt_of_le K8.out.lt hb6.size
     have hsz6 : w.heap.size ≤ w6.heap.size := Nat.le_trans HBw.out.size hb6.size
     have K8 := Lib.hid ((K8.out.below hb6).below hb7)
     clear q0 q1 q2 u0 u1 u2 u3 u4 u5 l4 l5
     clear hb6 hb7 hC HOX c1 v0 v1 r0 r1
     obtain ⟨d0, d1, d2, d3, _⟩ := blkc4 K8.out
     have f0 := blk_fz K8.out 0
     have f1 := blk_fz K8.out 1
     have f2 := blk_fz K8.out 2
     have f3 := blk_fz K8.out 3
     have l8' := K8.out.lt
     go_wp2
     refine bodyPost_ret (v := .agg #[.int .i64 sC, .slice aC nC cC, .int .i64 tC, .slice bC mC dC]) ?_ rfl (RBPost.mk rfl (set4_below HBZ.out hx8 _ _ _ _) (put4_new HC.out hsz6 l86 _ _ _ _))
     have kw := set4_same K8.out (.int .i64 sC) (.slice aC nC cC) (.int .i64 tC) (.slice bC mC dC)
     unfold set4 at kw
     generalize World.setCell (World.setCell (World.setCell (World.setCell _ _ _) _ _) _ _) _ _ = wz at *
     obtain ⟨e0, e1, e2, e3, _⟩ := blkc4 kw
     simp [results, Tryz.results121, go_sem, e0, e1, e2, e3]
    ·have hr0 : (rr == 0) = false := by simpa using hr
     go_wp2_with fail
     refine (HICX.out _).mono ?_
     rintro e5 w5 ⟨rfl, rfl⟩
     go_wp2_with fail
     have HCY := Lib.hid (cloU_yes HMB.out.symm)
     have HRN : ∀ k ∈ cloU s i, k < nb ∧ (bAt m.br k).res ≠ 0 := fun k hk => ⟨by have := (clo_mem hk).1; omega, by have := HNR.out k hk; unfold isRes at this; simpa using this⟩
     have hb1 := HSM.out (cloU s i) HRN
     have hlc := cloU_len s i
     have HQX := Lib.hid (HQS.out i (cloU s i) (by rw [← HRR.out]; omega) (by rw [← HRR.out]; omega))
     rw [← HRR.out] at HQX
     have HSZ := Lib.hid (show Sz 2 (sumQ m ⟨vo, lo, hi', ci, br, re⟩ load (cloU s i)) ∧ Sz 2 (conQ m (cloU s i)) ∧ Sz 2 (Rat.divInt (volA m ⟨vo, lo, hi', ci, br, re⟩ i) rr) ∧ Sz 2 (Rat.divInt 1 rr) from
      ⟨sz_parts (by omega) (by omega), sz_parts (by omega) (by omega), sz_parts (by omega) (by omega), sz_parts (by omega) (by omega)⟩)
     have HNX := Lib.hid (show ∀ j ∈ cloU s (i + 1), isRes m j = false from fun j hj => by
      rw [HCY.out] at hj
      rcases List.mem_append.1 hj with h | h
      ·exact HNR.out j h
      ·simp at h; subst h; unfold isRes; rw [← HRR.out]; exact hr0)
     have HOW := Lib.hid (show ∀ b, own3 X8 X9 X10 b → b < wr.heap.size from fun b hb => by have := K8.out.lt; have := K9.out.lt; have := K10.out.lt; unfold own3 at hb; omega)
     generalize volA m ⟨vo, lo, hi', ci, br, re⟩ i = VA at *
     clear hb1 hlc HRN c1
     obtain ⟨y0, y1, y2, y3, _⟩ := blkc4 K9.out
     obtain ⟨z0, z1, z2, z3, _⟩ := blkc4 K10.out
     have l9 := K9.out.lt
     have l10 := K10.out.lt
     have HN := Lib.hid (Below.refl wr.heap.size wr).drew
     refine wp_region_laterY (B := wr.heap.size) [0, 1, 2, 3, 5, 8, 9] [4, 6, 7, 10, 11] [12, 13] (by kernel_rfl) (by kernel_rfl) ?_; simp only [List.filterMap_cons, List.filterMap_nil, List.getElem?_cons_zero, List.getElem?_cons_succ]; repeat (show wpQuiet _ _ _ _ (_ :: _) _; go_big_quiet_step (fail))
     refine wpQuiet_nil ?_
     have HRA := Lib.hid (HRA.out.below (Below.refl _ _).drew)
     have HRB := Lib.hid (HRB.out.below (Below.refl _ _).drew)
     have K9 := Lib.hid (K9.out.below (Below.refl _ _).drew)
     have K10 := Lib.hid (K10.out.below (Below.refl _ _).drew)
     refine tailY_cons ?_
     go_wp2_with fail
     refine (HTVI.out _ (HBw.out.trans (HN.out.mono HBw.out.size))).mono ?_
     rintro e11 p1 ⟨rfl, hbx⟩
     have hzx := hbx.size
     have HN := bwt HN hbx
     have HRA := Lib.hid (HRA.out.below hbx)
     have HRB := Lib.hid (HRB.out.below hbx)
     have K9 := Lib.hid (K9.out.below hbx)
     have K10 := Lib.hid (K10.out.below hbx)
     clear hbx
     go_wp2_with fail
     refine tailL_mk HN.out ?_
     refine tailY_cons ?_
     go_wp2_with fail
     refine (rb_of VA rr _ (by omega) (by omega) (by omega) (by omega) (by omega)).mono ?_
     rintro ex p2 ⟨sC, aC, nC, cC, tC, bC, mC, dC, rfl, hbx, _, hCs⟩
     have HC := Lib.hid (RA.new (A := own3 X8 X9 X10) hCs.out (fun b hb => Nat.lt_of_lt_of_le (HOW.out b hb) HN.out.size))
     clear hCs
     have hzx := hbx.size
     have HN := bwt HN hbx
     have HRA := Lib.hid (HRA.out.below hbx)
     have HRB := Lib.hid (HRB.out.below hbx)
     have K9 := Lib.hid (K9.out.below hbx)
     have K10 := Lib.hid (K10.out.below hbx)
     clear hbx
     go_wp2_with fail
     refine tailL_mk HN.out ?_
     refine tailY_cons ?_
     go_wp2_with fail
     refine (rb_add _ _ _ _ 2 2 _ HRA.out.rb HC.out.rb HSZ.out.1 HSZ.out.2.2.1 (by omega)).mono ?_
     rintro ex p3 ⟨sS, aS, nS, cS, tS, bS, mS, dS, rfl, hbx, _, hSs⟩
     have HS := Lib.hid (RA.new (A := own3 X8 X9 X10) hSs.out (fun b hb => Nat.lt_of_lt_of_le (HOW.out b hb) HN.out.size))
     clear hSs
     have hzx := hbx.size
     have HN := bwt HN hbx
     have HRA := Lib.hid (HRA.out.below hbx)
     have HRB := Lib.hid (HRB.out.below hbx)
     have K9 := Lib.hid (K9.out.below hbx)
     have K10 := Lib.hid (K10.out.below hbx)
     have HC := Lib.hid (HC.out.below hbx)
     clear hbx
     go_wp2_with fail
     refine tailL_mk HN.out ?_
     refine tailY_cons ?_
     go_wp2_with fail
     refine (rb_of 1 rr _ (by omega) (by omega) (by omega) (by omega) (by omega)).mono ?_
     rintro ex p4 ⟨sE, aE, nE, cE, tE, bE, mE, dE, rfl, hbx, _, hEs⟩
     have HE := Lib.hid (RA.new (A := own3 X8 X9 X10) hEs.out (fun b hb => Nat.lt_of_lt_of_le (HOW.out b hb) HN.out.size))
     clear hEs
     have hzx := hbx.size
     have HN := bwt HN hbx
     have HRA := Lib.hid (HRA.out.below hbx)
     have HRB := Lib.hid (HRB.out.below hbx)
     have K9 := Lib.hid (K9.out.below hbx)
     have K10 := Lib.hid (K10.out.below hbx)
     have HC := Lib.hid (HC.out.below hbx)
     have HS := Lib.hid (HS.out.below hbx)
     clear hbx
     go_wp2_with fail
     refine tailL_mk HN.out ?_
     refine tailY_cons ?_
     go_wp2_with fail
     refine (rb_add _ _ _ _ 2 2 _ HRB.out.rb HE.out.rb HSZ.out.2.1 HSZ.out.2.2.2 (by omega)).mono ?_
     rintro ex p5 ⟨sT, aT, nT, cT, tT, bT, mT, dT, rfl, hbx, _, hTs⟩
     have HT := Lib.hid (RA.new (A := own3 X8 X9 X10) hTs.out (fun b hb => Nat.lt_of_lt_of_le (HOW.out b hb) HN.out.size))
     clear hTs
     have hzx := hbx.size
     have HN := bwt HN hbx
     have HRA := Lib.hid (HRA.out.below hbx)
     have HRB := Lib.hid (HRB.out.below hbx)
     have K9 := Lib.hid (K9.out.below hbx)
     have K10 := Lib.hid (K10.out.below hbx)
     have HC := Lib.hid (HC.out.below hbx)
     have HS := Lib.hid (HS.out.below hbx)
     have HE := Lib.hid (HE.out.below hbx)
     clear hbx
     go_wp2_with fail
     refine tailL_mk HN.out ?_
     refine tailY_ends ?_
     clear y0 y1 y2 y3 z0 z1 z2 z3 l9 l10
     clear q0 q1 q2 u0 u1 u2 u3 u4 u5 l4 l5
     obtain ⟨y0, y1, y2, y3, _⟩ := blkc4 K9.out
     obtain ⟨z0, z1, z2, z3, _⟩ := blkc4 K10.out
     have l9 := K9.out.lt
     have l10 := K10.out.lt
     have fy0 := blk_fz K9.out 0
     have fy1 := blk_fz K9.out 1
     have fy2 := blk_fz K9.out 2
     have fy3 := blk_fz K9.out 3
     have fz0 := blk_fz K10.out 0
     have fz1 := blk_fz K10.out 1
     have fz2 := blk_fz K10.out 2
     have fz3 := blk_fz K10.out 3
     refine ends_cons ?_
     go_wp2_with fail
     refine tailZ_end ?_
     clear y0 y1 y2 y3 z0 z1 z2 z3 l9 l10 fy0 fy1 fy2 fy3 fz0 fz1 fz2 fz3
     have hL9 := K9.out.lt
     have hL10 := K10.out.lt
     have K10 := Lib.hid (show BlkR (set4 p5 X9 (.int .i64 sS) (.slice aS nS cS) (.int .i64 tS) (.slice bS mS dS)) X10 _ from (set4_other p5 X9 X10 _ _ _ _ (by omega)).trans K10.out)
     have K9 := Lib.hid (show BlkR (set4 p5 X9 (.int .i64 sS) (.slice aS nS cS) (.int .i64 tS) (.slice bS mS dS)) X9 _ from set4_same K9.out _ _ _ _)
     have HS := Lib.hid (HS.out.put (X := X9) (.inr (.inl rfl)) (.int .i64 sS) (.slice aS nS cS) (.int .i64 tS) (.slice bS mS dS))
     have HT := Lib.hid (HT.out.put (X := X9) (.inr (.inl rfl)) (.int .i64 sS) (.slice aS nS cS) (.int .i64 tS) (.slice bS mS dS))
     have HBx := Lib.hid (set4_below (HBx.out.trans (HN.out.mono HBx.out.size)) hx9 (.int .i64 sS) (.slice aS nS cS) (.int .i64 tS) (.slice bS mS dS))
     show wpEnds _ _ _ _ _ (set4 p5 X9 (.int .i64 sS) (.slice aS nS cS) (.int .i64 tS) (.slice bS mS dS))
     generalize set4 p5 X9 (.int .i64 sS) (.slice aS nS cS) (.int .i64 tS) (.slice bS mS dS) = wy at *
     obtain ⟨y0, y1, y2, y3, _⟩ := blkc4 K9.out
     obtain ⟨z0, z1, z2, z3, _⟩ := blkc4 K10.out
     have l9 := K9.out.lt
     have l10 := K10.out.lt
     have fy0 := blk_fz K9.out 0
     have fy1 := blk_fz K9.out 1
     have fy2 := blk_fz K9.out 2
     have fy3 := blk_fz K9.out 3
     have fz0 := blk_fz K10.out 0
     have fz1 := blk_fz K10.out 1
     have fz2 := blk_fz K10.out 2
     have fz3 := blk_fz K10.out 3
     refine ends_cons ?_
     go_wp2_with fail
     refine tailZ_end ?_
     refine ends_nil ?_
     clear y0 y1 y2 y3 z0 z1 z2 z3 l9 l10 fy0 fy1 fy2 fy3 fz0 fz1 fz2 fz3
     have K9 := Lib.hid (show BlkR (set4 wy X10 (.int .i64 sT) (.slice aT nT cT) (.int .i64 tT) (.slice bT mT dT)) X9 _ from (set4_other wy X10 X9 _ _ _ _ (by omega)).trans K9.out)
     have K10 := Lib.hid (show BlkR (set4 wy X10 (.int .i64 sT) (.slice aT nT cT) (.int .i64 tT) (.slice bT mT dT)) X10 _ from set4_same K10.out _ _ _ _)
     have HS := Lib.hid (HS.out.put (X := X10) (.inr (.inr rfl)) (.int .i64 sT) (.slice aT nT cT) (.int .i64 tT) (.slice bT mT dT))
     have HT := Lib.hid (HT.out.put (X := X10) (.inr (.inr rfl)) (.int .i64 sT) (.slice aT nT cT) (.int .i64 tT) (.slice bT mT dT))
     have HBx := Lib.hid (set4_below HBx.out hx10 (.int .i64 sT) (.slice aT nT cT) (.int .i64 tT) (.slice bT mT dT))
     go_wp2_with fail
     go_roundw
     case rel => exact ⟨i + 1, ⟨sS, aS, nS, cS, tS, bS, mS, dS⟩, ⟨sT, aT, nT, cT, tT, bT, mT, dT⟩, by go_num, by omega, K9, K10, by rw [HCY.out, HQX.out.1]; exact HS, by rw [HCY.out, HQX.out.2]; exact HT, HNX, HBx⟩
     case measure => simp [intOf]; omega
  ·obtain rfl : nb = i := by omega
   obtain ⟨q0, q1, q2, _⟩ := blkc3 K4.out
   obtain ⟨u0, u1, u2, u3, u4, u5, _⟩ := blkc6 K5.out
   have l4 := K4.out.lt
   have l5 := K5.out.lt
   obtain ⟨y0, y1, y2, y3, _⟩ := blkc4 K9.out
   obtain ⟨z0, z1, z2, z3, _⟩ := blkc4 K10.out
   have l9 := K9.out.lt
   have l10 := K10.out.lt
   go_wp2_with fail
   have HRN : ∀ k ∈ cloU s nb, k < nb ∧ (bAt m.br k).res ≠ 0 := fun k hk => ⟨(clo_mem hk).1, by have := HNR.out k hk; unfold isRes at this; simpa using this⟩
   have hb1 := HSM.out (cloU s nb) HRN
   have hlc := cloU_len s nb
   have hne := HNE.out
   rw [H6.out] at hne HOD HCN
   have HDV := Lib.hid (show sumQ m ⟨vo, lo, hi', ci, br, re⟩ load (cloU s nb) / conQ m (cloU s nb) = OQ from HOD.out (by omega) (List.find?_eq_none.2 (fun k hk => by rw [HNR.out k hk]; decide)))
   have HCZ := Lib.hid (show conQ m (cloU s nb) ≠ 0 from HCN.out (by omega))
   have HSZ := Lib.hid (show Sz 2 (sumQ m ⟨vo, lo, hi', ci, br, re⟩ load (cloU s nb)) ∧ Sz 2 (conQ m (cloU s nb)) from ⟨sz_parts (by omega) (by omega), sz_parts (by omega) (by omega)⟩)
   refine (rb_div _ _ _ _ 2 2 wr HRA.out.rb HRB.out.rb HCZ.out HSZ.out.1 HSZ.out.2 (by omega)).mono ?_
   rintro e7 w7 ⟨sC, aC, nC, cC, tC, bC, mC, dC, rfl, hb7, _, hC⟩
   rw [HDV.out] at hC
   have HC := Lib.hid hC
   have HBZ := bwt HBw hb7
   have l86 : X8 < wr.heap.size := K8.out.lt
   have hsz6 : w.heap.size ≤ wr.heap.size := HBw.out.size
   have K8 := Lib.hid (K8.out.below hb7)
   clear q0 q1 q2 u0 u1 u2 u3 u4 u5 l4 l5
   clear hb7 hC hb1 hlc hne y0 y1 y2 y3 z0 z1 z2 z3 l9 l10
   obtain ⟨d0, d1, d2, d3, _⟩ := blkc4 K8.out
   have f0 := blk_fz K8.out 0
   have f1 := blk_fz K8.out 1
   have f2 := blk_fz K8.out 2
   have f3 := blk_fz K8.out 3
   have l8' := K8.out.lt
   go_wp2
   refine bodyPost_ret (v := .agg #[.int .i64 sC, .slice aC nC cC, .int .i64 tC, .slice bC mC dC]) ?_ rfl (RBPost.mk rfl (set4_below HBZ.out hx8 _ _ _ _) (put4_new HC.out hsz6 l86 _ _ _ _))
   have kw := set4_same K8.out (.int .i64 sC) (.slice aC nC cC) (.int .i64 tC) (.slice bC mC dC)
   unfold set4 at kw
   generalize World.setCell (World.setCell (World.setCell (World.setCell _ _ _) _ _) _ _) _ _ = wz at *
   obtain ⟨e0, e1, e2, e3, _⟩ := blkc4 kw
   simp [results, Tryz.results121, go_sem, e0, e1, e2, e3]
end Go.Proofs.YtdjinmieogpgcaaGreat
