import Derived.Deep.WholeRow
import Derived.Test.YtdjinmieogpgcaaGreatMTKey
/- A pair after a tick; after how many ticks a pair rests: the program. (Printed by gen_rsp.py.) -/
namespace Go.Proofs.YtdjinmieogpgcaaGreat
open Go.RowKit Go.Shelf
set_option linter.unusedVariables false
set_option linter.unusedSimpArgs false
theorem blk_put16 {w : World} {X t : Nat} {x0 x1 x2 x3 x4 x5 x6 x7 x8 x9 x10 x11 x12 x13 x14 x15 : Value} (h : w.heap[X]? = some (.cells #[x0, x1, x2, x3, x4, x5, x6, x7, x8, x9, x10, x11, x12, x13, x14, x15] t)) (v0 v1 v2 v3 v4 v5 v6 v7 v8 v9 v10 v11 v12 v13 v14 v15 : Value) :
    (((((((((((((((((w.setCell ⟨X, 0, none⟩ v0).setCell ⟨X, 1, none⟩ v1).setCell ⟨X, 2, none⟩ v2).setCell ⟨X, 3, none⟩ v3).setCell ⟨X, 4, none⟩ v4).setCell ⟨X, 5, none⟩ v5).setCell ⟨X, 6, none⟩ v6).setCell ⟨X, 7, none⟩ v7).setCell ⟨X, 8, none⟩ v8).setCell ⟨X, 9, none⟩ v9).setCell ⟨X, 10, none⟩ v10).setCell ⟨X, 11, none⟩ v11).setCell ⟨X, 12, none⟩ v12).setCell ⟨X, 13, none⟩ v13).setCell ⟨X, 14, none⟩ v14).setCell ⟨X, 15, none⟩ v15)).heap[X]? = some (.cells #[v0, v1, v2, v3, v4, v5, v6, v7, v8, v9, v10, v11, v12, v13, v14, v15] t) := by
 have h0 : (w.setCell ⟨X, 0, none⟩ v0).heap[X]? = some (.cells #[v0, x1, x2, x3, x4, x5, x6, x7, x8, x9, x10, x11, x12, x13, x14, x15] t) := by rw [blk_set h 0 v0]; rfl
 have h1 : ((w.setCell ⟨X, 0, none⟩ v0).setCell ⟨X, 1, none⟩ v1).heap[X]? = some (.cells #[v0, v1, x2, x3, x4, x5, x6, x7, x8, x9, x10, x11, x12, x13, x14, x15] t) := by rw [blk_set h0 1 v1]; rfl
 have h2 : (((w.setCell ⟨X, 0, none⟩ v0).setCell ⟨X, 1, none⟩ v1).setCell ⟨X, 2, none⟩ v2).heap[X]? = some (.cells #[v0, v1, v2, x3, x4, x5, x6, x7, x8, x9, x10, x11, x12, x13, x14, x15] t) := by rw [blk_set h1 2 v2]; rfl
 have h3 : ((((w.setCell ⟨X, 0, none⟩ v0).setCell ⟨X, 1, none⟩ v1).setCell ⟨X, 2, none⟩ v2).setCell ⟨X, 3, none⟩ v3).heap[X]? = some (.cells #[v0, v1, v2, v3, x4, x5, x6, x7, x8, x9, x10, x11, x12, x13, x14, x15] t) := by rw [blk_set h2 3 v3]; rfl
 have h4 : (((((w.setCell ⟨X, 0, none⟩ v0).setCell ⟨X, 1, none⟩ v1).setCell ⟨X, 2, none⟩ v2).setCell ⟨X, 3, none⟩ v3).setCell ⟨X, 4, none⟩ v4).heap[X]? = some (.cells #[v0, v1, v2, v3, v4, x5, x6, x7, x8, x9, x10, x11, x12, x13, x14, x15] t) := by rw [blk_set h3 4 v4]; rfl
 have h5 : ((((((w.setCell ⟨X, 0, none⟩ v0).setCell ⟨X, 1, none⟩ v1).setCell ⟨X, 2, none⟩ v2).setCell ⟨X, 3, none⟩ v3).setCell ⟨X, 4, none⟩ v4).setCell ⟨X, 5, none⟩ v5).heap[X]? = some (.cells #[v0, v1, v2, v3, v4, v5, x6, x7, x8, x9, x10, x11, x12, x13, x14, x15] t) := by rw [blk_set h4 5 v5]; rfl
 have h6 : (((((((w.setCell ⟨X, 0, none⟩ v0).setCell ⟨X, 1, none⟩ v1).setCell ⟨X, 2, none⟩ v2).setCell ⟨X, 3, none⟩ v3).setCell ⟨X, 4, none⟩ v4).setCell ⟨X, 5, none⟩ v5).setCell ⟨X, 6, none⟩ v6).heap[X]? = some (.cells #[v0, v1, v2, v3, v4, v5, v6, x7, x8, x9, x10, x11, x12, x13, x14, x15] t) := by rw [blk_set h5 6 v6]; rfl
 have h7 : ((((((((w.setCell ⟨X, 0, none⟩ v0).setCell ⟨X, 1, none⟩ v1).setCell ⟨X, 2, none⟩ v2).setCell ⟨X, 3, none⟩ v3).setCell ⟨X, 4, none⟩ v4).setCell ⟨X, 5, none⟩ v5).setCell ⟨X, 6, none⟩ v6).setCell ⟨X, 7, none⟩ v7).heap[X]? = some (.cells #[v0, v1, v2, v3, v4, v5, v6, v7, x8, x9, x10, x11, x12, x13, x14, x15] t) := by rw [blk_set h6 7 v7]; rfl
 have h8 : (((((((((w.setCell ⟨X, 0, none⟩ v0).setCell ⟨X, 1, none⟩ v1).setCell ⟨X, 2, none⟩ v2).setCell ⟨X, 3, none⟩ v3).setCell ⟨X, 4, none⟩ v4).setCell ⟨X, 5, none⟩ v5).setCell ⟨X, 6, none⟩ v6).setCell ⟨X, 7, none⟩ v7).setCell ⟨X, 8, none⟩ v8).heap[X]? = some (.cells #[v0, v1, v2, v3, v4, v5, v6, v7, v8, x9, x10, x11, x12, x13, x14, x15] t) := by rw [blk_set h7 8 v8]; rfl
 have h9 : ((((((((((w.setCell ⟨X, 0, none⟩ v0).setCell ⟨X, 1, none⟩ v1).setCell ⟨X, 2, none⟩ v2).setCell ⟨X, 3, none⟩ v3).setCell ⟨X, 4, none⟩ v4).setCell ⟨X, 5, none⟩ v5).setCell ⟨X, 6, none⟩ v6).setCell ⟨X, 7, none⟩ v7).setCell ⟨X, 8, none⟩ v8).setCell ⟨X, 9, none⟩ v9).heap[X]? = some (.cells #[v0, v1, v2, v3, v4, v5, v6, v7, v8, v9, x10, x11, x12, x13, x14, x15] t) := by rw [blk_set h8 9 v9]; rfl
 have h10 : (((((((((((w.setCell ⟨X, 0, none⟩ v0).setCell ⟨X, 1, none⟩ v1).setCell ⟨X, 2, none⟩ v2).setCell ⟨X, 3, none⟩ v3).setCell ⟨X, 4, none⟩ v4).setCell ⟨X, 5, none⟩ v5).setCell ⟨X, 6, none⟩ v6).setCell ⟨X, 7, none⟩ v7).setCell ⟨X, 8, none⟩ v8).setCell ⟨X, 9, none⟩ v9).setCell ⟨X, 10, none⟩ v10).heap[X]? = some (.cells #[v0, v1, v2, v3, v4, v5, v6, v7, v8, v9, v10, x11, x12, x13, x14, x15] t) := by rw [blk_set h9 10 v10]; rfl
 have h11 : ((((((((((((w.setCell ⟨X, 0, none⟩ v0).setCell ⟨X, 1, none⟩ v1).setCell ⟨X, 2, none⟩ v2).setCell ⟨X, 3, none⟩ v3).setCell ⟨X, 4, none⟩ v4).setCell ⟨X, 5, none⟩ v5).setCell ⟨X, 6, none⟩ v6).setCell ⟨X, 7, none⟩ v7).setCell ⟨X, 8, none⟩ v8).setCell ⟨X, 9, none⟩ v9).setCell ⟨X, 10, none⟩ v10).setCell ⟨X, 11, none⟩ v11).heap[X]? = some (.cells #[v0, v1, v2, v3, v4, v5, v6, v7, v8, v9, v10, v11, x12, x13, x14, x15] t) := by rw [blk_set h10 11 v11]; rfl
 have h12 : (((((((((((((w.setCell ⟨X, 0, none⟩ v0).setCell ⟨X, 1, none⟩ v1).setCell ⟨X, 2, none⟩ v2).setCell ⟨X, 3, none⟩ v3).setCell ⟨X, 4, none⟩ v4).setCell ⟨X, 5, none⟩ v5).setCell ⟨X, 6, none⟩ v6).setCell ⟨X, 7, none⟩ v7).setCell ⟨X, 8, none⟩ v8).setCell ⟨X, 9, none⟩ v9).setCell ⟨X, 10, none⟩ v10).setCell ⟨X, 11, none⟩ v11).setCell ⟨X, 12, none⟩ v12).heap[X]? = some (.cells #[v0, v1, v2, v3, v4, v5, v6, v7, v8, v9, v10, v11, v12, x13, x14, x15] t) := by rw [blk_set h11 12 v12]; rfl
 have h13 : ((((((((((((((w.setCell ⟨X, 0, none⟩ v0).setCell ⟨X, 1, none⟩ v1).setCell ⟨X, 2, none⟩ v2).setCell ⟨X, 3, none⟩ v3).setCell ⟨X, 4, none⟩ v4).setCell ⟨X, 5, none⟩ v5).setCell ⟨X, 6, none⟩ v6).setCell ⟨X, 7, none⟩ v7).setCell ⟨X, 8, none⟩ v8).setCell ⟨X, 9, none⟩ v9).setCell ⟨X, 10, none⟩ v10).setCell ⟨X, 11, none⟩ v11).setCell ⟨X, 12, none⟩ v12).setCell ⟨X, 13, none⟩ v13).heap[X]? = some (.cells #[v0, v1, v2, v3, v4, v5, v6, v7, v8, v9, v10, v11, v12, v13, x14, x15] t) := by rw [blk_set h12 13 v13]; rfl
 have h14 : (((((((((((((((w.setCell ⟨X, 0, none⟩ v0).setCell ⟨X, 1, none⟩ v1).setCell ⟨X, 2, none⟩ v2).setCell ⟨X, 3, none⟩ v3).setCell ⟨X, 4, none⟩ v4).setCell ⟨X, 5, none⟩ v5).setCell ⟨X, 6, none⟩ v6).setCell ⟨X, 7, none⟩ v7).setCell ⟨X, 8, none⟩ v8).setCell ⟨X, 9, none⟩ v9).setCell ⟨X, 10, none⟩ v10).setCell ⟨X, 11, none⟩ v11).setCell ⟨X, 12, none⟩ v12).setCell ⟨X, 13, none⟩ v13).setCell ⟨X, 14, none⟩ v14).heap[X]? = some (.cells #[v0, v1, v2, v3, v4, v5, v6, v7, v8, v9, v10, v11, v12, v13, v14, x15] t) := by rw [blk_set h13 14 v14]; rfl
 have h15 : ((((((((((((((((w.setCell ⟨X, 0, none⟩ v0).setCell ⟨X, 1, none⟩ v1).setCell ⟨X, 2, none⟩ v2).setCell ⟨X, 3, none⟩ v3).setCell ⟨X, 4, none⟩ v4).setCell ⟨X, 5, none⟩ v5).setCell ⟨X, 6, none⟩ v6).setCell ⟨X, 7, none⟩ v7).setCell ⟨X, 8, none⟩ v8).setCell ⟨X, 9, none⟩ v9).setCell ⟨X, 10, none⟩ v10).setCell ⟨X, 11, none⟩ v11).setCell ⟨X, 12, none⟩ v12).setCell ⟨X, 13, none⟩ v13).setCell ⟨X, 14, none⟩ v14).setCell ⟨X, 15, none⟩ v15).heap[X]? = some (.cells #[v0, v1, v2, v3, v4, v5, v6, v7, v8, v9, v10, v11, v12, v13, v14, v15] t) := by rw [blk_set h14 15 v15]; rfl
 exact h15
theorem below_put16 {w0 w : World} {B X : Nat} (h : Below B w0 w) (hX : B ≤ X) (v0 v1 v2 v3 v4 v5 v6 v7 v8 v9 v10 v11 v12 v13 v14 v15 : Value) :
    Below B w0 ((((((((((((((((w.setCell ⟨X, 0, none⟩ v0).setCell ⟨X, 1, none⟩ v1).setCell ⟨X, 2, none⟩ v2).setCell ⟨X, 3, none⟩ v3).setCell ⟨X, 4, none⟩ v4).setCell ⟨X, 5, none⟩ v5).setCell ⟨X, 6, none⟩ v6).setCell ⟨X, 7, none⟩ v7).setCell ⟨X, 8, none⟩ v8).setCell ⟨X, 9, none⟩ v9).setCell ⟨X, 10, none⟩ v10).setCell ⟨X, 11, none⟩ v11).setCell ⟨X, 12, none⟩ v12).setCell ⟨X, 13, none⟩ v13).setCell ⟨X, 14, none⟩ v14).setCell ⟨X, 15, none⟩ v15) :=
 (((((((((((((((h.setCell hX _).setCell hX _).setCell hX _).setCell hX _).setCell hX _).setCell hX _).setCell hX _).setCell hX _).setCell hX _).setCell hX _).setCell hX _).setCell hX _).setCell hX _).setCell hX _).setCell hX _).setCell hX _
set_option maxHeartbeats 2000000 in
set_option maxRecDepth 100000 in
theorem pairTicked_any (p : Pai) (d : Int) (w : World) (hp : PaiV p) (hd : -10000 ≤ d ∧ d ≤ 10000) :
    Calls Tryz.prog 39 #[.agg #[.int .i64 (p).a.tgt, .int .i64 (p).a.band, .int .i64 (p).a.dly, .int .i64 (p).a.stp, .int .i64 (p).a.lo, .int .i64 (p).a.hi, .int .i64 (p).b.tgt, .int .i64 (p).b.band, .int .i64 (p).b.dly, .int .i64 (p).b.stp, .int .i64 (p).b.lo, .int .i64 (p).b.hi, .int .i64 (p).ma.tap, .int .i64 (p).ma.wait, .int .i64 (p).mb.tap, .int .i64 (p).mb.wait], .int .i64 d] w fun e' w' => e' = .returned (.agg #[.int .i64 (tickP d p).a.tgt, .int .i64 (tickP d p).a.band, .int .i64 (tickP d p).a.dly, .int .i64 (tickP d p).a.stp, .int .i64 (tickP d p).a.lo, .int .i64 (tickP d p).a.hi, .int .i64 (tickP d p).b.tgt, .int .i64 (tickP d p).b.band, .int .i64 (tickP d p).b.dly, .int .i64 (tickP d p).b.stp, .int .i64 (tickP d p).b.lo, .int .i64 (tickP d p).b.hi, .int .i64 (tickP d p).ma.tap, .int .i64 (tickP d p).ma.wait, .int .i64 (tickP d p).mb.tap, .int .i64 (tickP d p).mb.wait]) ∧ Below w.heap.size w w' := by
 have key : ∀ (r : Reg) (m : Mom), RegV r → MomV r m → -400000 ≤ r.stp * m.tap ∧ r.stp * m.tap ≤ 400000 := by
  intro r m hr hm
  have h1 := hm.1
  have h2 := hr.l0
  have h3 := hr.h1
  have h4 : (r.stp * m.tap).natAbs ≤ 10000 * 40 := by rw [Int.natAbs_mul]; exact Nat.mul_le_mul (by have := hr.s0; have := hr.s1; omega) (by omega)
  omega
 have k1 := key p.a p.ma hp.1 hp.2.2.1
 have k2 := key p.b p.mb hp.2.1 hp.2.2.2
 have HA := Lib.hid (fun (W : World) => acted_any p.a p.ma (volP p d) W hp.1 hp.2.2.1)
 have HB := Lib.hid (fun (W : World) => acted_any p.b p.mb (volP p d) W hp.2.1 hp.2.2.2)
 have hT : tickP d p = ⟨p.a, p.b, act p.a p.ma (volP p d), act p.b p.mb (volP p d)⟩ := rfl
 rw [hT]
 generalize act p.a p.ma (volP p d) = R1 at *
 generalize act p.b p.mb (volP p d) = R2 at *
 have hV : volP p d = d + (p.a.stp * p.ma.tap + p.b.stp * p.mb.tap) / 2 := rfl
 generalize volP p d = V at *
 obtain ⟨⟨tgt, band, dly, stp, lo, hi⟩, ⟨tgt2, band2, dly2, stp2, lo2, hi2⟩, ⟨tap, wait⟩, ⟨tap2, wait2⟩⟩ := p
 obtain ⟨ra, rb⟩ := R1
 obtain ⟨rc, rd⟩ := R2
 simp only at HA HB hV k1 k2 ⊢
 generalize hP1 : stp * tap = P1 at *
 generalize hP2 : stp2 * tap2 = P2 at *
 have w1 : IntKind.i64.wrap P1 = P1 := by rw [IntKind.wrap_i64]; omega
 have w2 : IntKind.i64.wrap P2 = P2 := by rw [IntKind.wrap_i64]; omega
 have w3 : IntKind.i64.wrap (P1 + P2) = P1 + P2 := by rw [IntKind.wrap_i64]; omega
 have w4 : IntKind.i64.wrap ((P1 + P2) / 2) = (P1 + P2) / 2 := by rw [IntKind.wrap_i64]; omega
 have w5 : IntKind.i64.wrap (d + (P1 + P2) / 2) = d + (P1 + P2) / 2 := by rw [IntKind.wrap_i64]; omega
 subst hV
 clear hp hT key
 go_enter Tryz.func39, Tryz.ntmps39
 go_wp2_with fail
 obtain ⟨w2, hW2⟩ : ∃ w2, w2 = (w.alloc (Obj.cells #[.int .i64 tgt, .int .i64 band, .int .i64 dly, .int .i64 stp, .int .i64 lo, .int .i64 hi, .int .i64 tgt2, .int .i64 band2, .int .i64 dly2, .int .i64 stp2, .int .i64 lo2, .int .i64 hi2, .int .i64 tap, .int .i64 wait, .int .i64 tap2, .int .i64 wait2] 29)).alloc (Obj.cells #[.int .i64 0, .int .i64 0, .int .i64 0, .int .i64 0, .int .i64 0, .int .i64 0, .int .i64 0, .int .i64 0, .int .i64 0, .int .i64 0, .int .i64 0, .int .i64 0, .int .i64 0, .int .i64 0, .int .i64 0, .int .i64 0] 29) := ⟨_, rfl⟩
 rw [← hW2]
 have hb2 : Below w.heap.size w w2 := by rw [hW2]; (first|exact bwg|go_size)
 have k2 : BlkR w2 w.heap.size (.cells #[.int .i64 tgt, .int .i64 band, .int .i64 dly, .int .i64 stp, .int .i64 lo, .int .i64 hi, .int .i64 tgt2, .int .i64 band2, .int .i64 dly2, .int .i64 stp2, .int .i64 lo2, .int .i64 hi2, .int .i64 tap, .int .i64 wait, .int .i64 tap2, .int .i64 wait2] 29) := by
  show w2.heap[w.heap.size]? = _
  rw [hW2, Below.heap_alloc _ _ _ (by simp)]; exact heap_alloc_new _ _
 have k4 : BlkR w2 (w.heap.size + 1) (.cells #[.int .i64 0, .int .i64 0, .int .i64 0, .int .i64 0, .int .i64 0, .int .i64 0, .int .i64 0, .int .i64 0, .int .i64 0, .int .i64 0, .int .i64 0, .int .i64 0, .int .i64 0, .int .i64 0, .int .i64 0, .int .i64 0] 29) := by
  show w2.heap[w.heap.size + 1]? = _
  rw [hW2]
  have := heap_alloc_new (w.alloc (Obj.cells #[.int .i64 tgt, .int .i64 band, .int .i64 dly, .int .i64 stp, .int .i64 lo, .int .i64 hi, .int .i64 tgt2, .int .i64 band2, .int .i64 dly2, .int .i64 stp2, .int .i64 lo2, .int .i64 hi2, .int .i64 tap, .int .i64 wait, .int .i64 tap2, .int .i64 wait2] 29)) (Obj.cells #[.int .i64 0, .int .i64 0, .int .i64 0, .int .i64 0, .int .i64 0, .int .i64 0, .int .i64 0, .int .i64 0, .int .i64 0, .int .i64 0, .int .i64 0, .int .i64 0, .int .i64 0, .int .i64 0, .int .i64 0, .int .i64 0] 29)
  rwa [World.size_alloc] at this
 obtain ⟨X2, hX2⟩ : ∃ X, X = w.heap.size := ⟨_, rfl⟩
 obtain ⟨X4, hX4⟩ : ∃ X, X = w.heap.size + 1 := ⟨_, rfl⟩
 rw [← hX4] at k4
 rw [← hX2] at k2
 simp only [← hX4]
 simp only [← hX2]
 have hw2 : w.heap.size ≤ X2 := by omega
 have hw4 : w.heap.size ≤ X4 := by omega
 have n24 : X2 ≠ X4 := by omega
 clear hW2 hX2 hX4 k1
 refine (HA.out _).mono ?_
 rintro e3 w3 ⟨rfl, hb3⟩
 have K2 := Lib.hid (k2.below hb3)
 have K4 := Lib.hid (k4.below hb3)
 have HBW := Lib.hid (hb2.trans (hb3.mono hb2.size))
 have c_0 := blk_cell K2.out (i := 0) rfl
 have c_1 := blk_cell K2.out (i := 1) rfl
 have c_2 := blk_cell K2.out (i := 2) rfl
 have c_3 := blk_cell K2.out (i := 3) rfl
 have c_4 := blk_cell K2.out (i := 4) rfl
 have c_5 := blk_cell K2.out (i := 5) rfl
 have c_6 := blk_cell K2.out (i := 6) rfl
 have c_7 := blk_cell K2.out (i := 7) rfl
 have c_8 := blk_cell K2.out (i := 8) rfl
 have c_9 := blk_cell K2.out (i := 9) rfl
 have c_10 := blk_cell K2.out (i := 10) rfl
 have c_11 := blk_cell K2.out (i := 11) rfl
 have c_12 := blk_cell K2.out (i := 12) rfl
 have c_13 := blk_cell K2.out (i := 13) rfl
 have c_14 := blk_cell K2.out (i := 14) rfl
 have c_15 := blk_cell K2.out (i := 15) rfl
 have f_0 := blk_fz K2.out 0
 have f_1 := blk_fz K2.out 1
 have f_2 := blk_fz K2.out 2
 have f_3 := blk_fz K2.out 3
 have f_4 := blk_fz K2.out 4
 have f_5 := blk_fz K2.out 5
 have f_6 := blk_fz K2.out 6
 have f_7 := blk_fz K2.out 7
 have f_8 := blk_fz K2.out 8
 have f_9 := blk_fz K2.out 9
 have f_10 := blk_fz K2.out 10
 have f_11 := blk_fz K2.out 11
 have f_12 := blk_fz K2.out 12
 have f_13 := blk_fz K2.out 13
 have f_14 := blk_fz K2.out 14
 have f_15 := blk_fz K2.out 15
 have l2 := K2.out.lt
 clear k2 k4 hb2 hb3 HA
 go_wp2_with fail
 obtain ⟨w4, hW4⟩ : ∃ w4, w4 = (w3.setCell ⟨X2, 12, none⟩ (.int .i64 ra)).setCell ⟨X2, 13, none⟩ (.int .i64 rb) := ⟨_, rfl⟩
 rw [← hW4]
 have k2 : BlkR w4 X2 (.cells #[.int .i64 tgt, .int .i64 band, .int .i64 dly, .int .i64 stp, .int .i64 lo, .int .i64 hi, .int .i64 tgt2, .int .i64 band2, .int .i64 dly2, .int .i64 stp2, .int .i64 lo2, .int .i64 hi2, .int .i64 ra, .int .i64 rb, .int .i64 tap2, .int .i64 wait2] 29) := by rw [hW4]; exact blk_set (blk_set K2.out 12 _) 13 _
 have k4 : BlkR w4 X4 (.cells #[.int .i64 0, .int .i64 0, .int .i64 0, .int .i64 0, .int .i64 0, .int .i64 0, .int .i64 0, .int .i64 0, .int .i64 0, .int .i64 0, .int .i64 0, .int .i64 0, .int .i64 0, .int .i64 0, .int .i64 0, .int .i64 0] 29) := by rw [hW4]; exact (heap_set_neI n24.symm).trans ((heap_set_neI n24.symm).trans K4.out)
 have hbw : Below w.heap.size w w4 := by rw [hW4]; exact (HBW.out.setCell hw2 _).setCell hw2 _
 clear hW4 c_0 c_1 c_2 c_3 c_4 c_5 c_6 c_7 c_8 c_9 c_10 c_11 c_12 c_13 c_14 c_15 f_0 f_1 f_2 f_3 f_4 f_5 f_6 f_7 f_8 f_9 f_10 f_11 f_12 f_13 f_14 f_15 l2 K2 K4 HBW
 refine (HB.out _).mono ?_
 rintro e5 w5' ⟨rfl, hb5⟩
 have K2 := Lib.hid (k2.below hb5)
 have K4 := Lib.hid (k4.below hb5)
 have HBW := Lib.hid (hbw.trans (hb5.mono hbw.size))
 have c_0 := blk_cell K2.out (i := 0) rfl
 have c_1 := blk_cell K2.out (i := 1) rfl
 have c_2 := blk_cell K2.out (i := 2) rfl
 have c_3 := blk_cell K2.out (i := 3) rfl
 have c_4 := blk_cell K2.out (i := 4) rfl
 have c_5 := blk_cell K2.out (i := 5) rfl
 have c_6 := blk_cell K2.out (i := 6) rfl
 have c_7 := blk_cell K2.out (i := 7) rfl
 have c_8 := blk_cell K2.out (i := 8) rfl
 have c_9 := blk_cell K2.out (i := 9) rfl
 have c_10 := blk_cell K2.out (i := 10) rfl
 have c_11 := blk_cell K2.out (i := 11) rfl
 have c_12 := blk_cell K2.out (i := 12) rfl
 have c_13 := blk_cell K2.out (i := 13) rfl
 have c_14 := blk_cell K2.out (i := 14) rfl
 have c_15 := blk_cell K2.out (i := 15) rfl
 have f_0 := blk_fz K2.out 0
 have f_1 := blk_fz K2.out 1
 have f_2 := blk_fz K2.out 2
 have f_3 := blk_fz K2.out 3
 have f_4 := blk_fz K2.out 4
 have f_5 := blk_fz K2.out 5
 have f_6 := blk_fz K2.out 6
 have f_7 := blk_fz K2.out 7
 have f_8 := blk_fz K2.out 8
 have f_9 := blk_fz K2.out 9
 have f_10 := blk_fz K2.out 10
 have f_11 := blk_fz K2.out 11
 have f_12 := blk_fz K2.out 12
 have f_13 := blk_fz K2.out 13
 have f_14 := blk_fz K2.out 14
 have f_15 := blk_fz K2.out 15
 have l2 := K2.out.lt
 have d_0 := blk_cell K4.out (i := 0) rfl
 have d_1 := blk_cell K4.out (i := 1) rfl
 have d_2 := blk_cell K4.out (i := 2) rfl
 have d_3 := blk_cell K4.out (i := 3) rfl
 have d_4 := blk_cell K4.out (i := 4) rfl
 have d_5 := blk_cell K4.out (i := 5) rfl
 have d_6 := blk_cell K4.out (i := 6) rfl
 have d_7 := blk_cell K4.out (i := 7) rfl
 have d_8 := blk_cell K4.out (i := 8) rfl
 have d_9 := blk_cell K4.out (i := 9) rfl
 have d_10 := blk_cell K4.out (i := 10) rfl
 have d_11 := blk_cell K4.out (i := 11) rfl
 have d_12 := blk_cell K4.out (i := 12) rfl
 have d_13 := blk_cell K4.out (i := 13) rfl
 have d_14 := blk_cell K4.out (i := 14) rfl
 have d_15 := blk_cell K4.out (i := 15) rfl
 have g_0 := blk_fz K4.out 0
 have g_1 := blk_fz K4.out 1
 have g_2 := blk_fz K4.out 2
 have g_3 := blk_fz K4.out 3
 have g_4 := blk_fz K4.out 4
 have g_5 := blk_fz K4.out 5
 have g_6 := blk_fz K4.out 6
 have g_7 := blk_fz K4.out 7
 have g_8 := blk_fz K4.out 8
 have g_9 := blk_fz K4.out 9
 have g_10 := blk_fz K4.out 10
 have g_11 := blk_fz K4.out 11
 have g_12 := blk_fz K4.out 12
 have g_13 := blk_fz K4.out 13
 have g_14 := blk_fz K4.out 14
 have g_15 := blk_fz K4.out 15
 have l4 := K4.out.lt
 clear k2 k4 hbw hb5 HB
 go_wp2
 obtain ⟨w6, hW6⟩ : ∃ w6, w6 = (w5'.setCell ⟨X2, 14, none⟩ (.int .i64 rc)).setCell ⟨X2, 15, none⟩ (.int .i64 rd) := ⟨_, rfl⟩
 rw [← hW6]
 have k4 : BlkR w6 X4 (.cells #[.int .i64 0, .int .i64 0, .int .i64 0, .int .i64 0, .int .i64 0, .int .i64 0, .int .i64 0, .int .i64 0, .int .i64 0, .int .i64 0, .int .i64 0, .int .i64 0, .int .i64 0, .int .i64 0, .int .i64 0, .int .i64 0] 29) := by rw [hW6]; exact (heap_set_neI n24.symm).trans ((heap_set_neI n24.symm).trans K4.out)
 have hbw : Below w.heap.size w w6 := by rw [hW6]; exact (HBW.out.setCell hw2 _).setCell hw2 _
 have k4 := blk_put16 k4 (.int .i64 tgt) (.int .i64 band) (.int .i64 dly) (.int .i64 stp) (.int .i64 lo) (.int .i64 hi) (.int .i64 tgt2) (.int .i64 band2) (.int .i64 dly2) (.int .i64 stp2) (.int .i64 lo2) (.int .i64 hi2) (.int .i64 ra) (.int .i64 rb) (.int .i64 rc) (.int .i64 rd)
 have hbw := below_put16 hbw hw4 (.int .i64 tgt) (.int .i64 band) (.int .i64 dly) (.int .i64 stp) (.int .i64 lo) (.int .i64 hi) (.int .i64 tgt2) (.int .i64 band2) (.int .i64 dly2) (.int .i64 stp2) (.int .i64 lo2) (.int .i64 hi2) (.int .i64 ra) (.int .i64 rb) (.int .i64 rc) (.int .i64 rd)
 clear hW6 c_0 c_1 c_2 c_3 c_4 c_5 c_6 c_7 c_8 c_9 c_10 c_11 c_12 c_13 c_14 c_15 f_0 f_1 f_2 f_3 f_4 f_5 f_6 f_7 f_8 f_9 f_10 f_11 f_12 f_13 f_14 f_15 d_0 d_1 d_2 d_3 d_4 d_5 d_6 d_7 d_8 d_9 d_10 d_11 d_12 d_13 d_14 d_15 g_0 g_1 g_2 g_3 g_4 g_5 g_6 g_7 g_8 g_9 g_10 g_11 g_12 g_13 g_14 g_15 l2 l4 K2 K4 HBW
 generalize World.setCell (World.setCell (World.setCell (World.setCell (World.setCell (World.setCell (World.setCell (World.setCell (World.setCell (World.setCell (World.setCell (World.setCell (World.setCell (World.setCell (World.setCell (World.setCell (w6) ⟨X4, 0, none⟩ (.int .i64 tgt)) ⟨X4, 1, none⟩ (.int .i64 band)) ⟨X4, 2, none⟩ (.int .i64 dly)) ⟨X4, 3, none⟩ (.int .i64 stp)) ⟨X4, 4, none⟩ (.int .i64 lo)) ⟨X4, 5, none⟩ (.int .i64 hi)) ⟨X4, 6, none⟩ (.int .i64 tgt2)) ⟨X4, 7, none⟩ (.int .i64 band2)) ⟨X4, 8, none⟩ (.int .i64 dly2)) ⟨X4, 9, none⟩ (.int .i64 stp2)) ⟨X4, 10, none⟩ (.int .i64 lo2)) ⟨X4, 11, none⟩ (.int .i64 hi2)) ⟨X4, 12, none⟩ (.int .i64 ra)) ⟨X4, 13, none⟩ (.int .i64 rb)) ⟨X4, 14, none⟩ (.int .i64 rc)) ⟨X4, 15, none⟩ (.int .i64 rd) = wz at *
 have c_0 := blk_cell k4 (i := 0) rfl
 have c_1 := blk_cell k4 (i := 1) rfl
 have c_2 := blk_cell k4 (i := 2) rfl
 have c_3 := blk_cell k4 (i := 3) rfl
 have c_4 := blk_cell k4 (i := 4) rfl
 have c_5 := blk_cell k4 (i := 5) rfl
 have c_6 := blk_cell k4 (i := 6) rfl
 have c_7 := blk_cell k4 (i := 7) rfl
 have c_8 := blk_cell k4 (i := 8) rfl
 have c_9 := blk_cell k4 (i := 9) rfl
 have c_10 := blk_cell k4 (i := 10) rfl
 have c_11 := blk_cell k4 (i := 11) rfl
 have c_12 := blk_cell k4 (i := 12) rfl
 have c_13 := blk_cell k4 (i := 13) rfl
 have c_14 := blk_cell k4 (i := 14) rfl
 have c_15 := blk_cell k4 (i := 15) rfl
 refine bodyPost_ret (v := .agg #[.int .i64 tgt, .int .i64 band, .int .i64 dly, .int .i64 stp, .int .i64 lo, .int .i64 hi, .int .i64 tgt2, .int .i64 band2, .int .i64 dly2, .int .i64 stp2, .int .i64 lo2, .int .i64 hi2, .int .i64 ra, .int .i64 rb, .int .i64 rc, .int .i64 rd]) (by simp [results, Tryz.results39, go_sem, c_0, c_1, c_2, c_3, c_4, c_5, c_6, c_7, c_8, c_9, c_10, c_11, c_12, c_13, c_14, c_15]) rfl ⟨rfl, hbw⟩
/- A whole row of a block, by value: loads and stores that do not look into it. Plain laws of the model. -/
section
variable {P : Program}
theorem strow {w : World} {g : Nat} {c c' : Array Value} {t : TypeId} (hg : w.heap[g]? = some (.cells c t)) (ho : c.size = c'.size) (h1 : ∀ v ∈ c'.toList, v.oneCell' = true) :
    (storeCells ⟨g, 0, none⟩ c'.toList 0).run P w = .ok () (w.setRow g c') := by
 have := run_storeCells_from (P := P) g t c'.toList 0 c w hg (by simp; omega) h1
 simpa using this
theorem strow_new {w : World} {c c' : Array Value} {t : TypeId} (ho : c.size = c'.size) (h1 : ∀ v ∈ c'.toList, v.oneCell' = true) :
    (storeCells ⟨w.heap.size, 0, none⟩ c'.toList 0).run P (w.alloc (.cells c t)) = .ok () (w.alloc (.cells c' t)) := by
 rw [strow (heap_alloc_last w _) ho h1, World.setRow_alloc_new]
theorem ldvar_cells {w : World} {g ty : Nat} {c : Array Value} {d : TypeDesc} (hc : ∀ j : Nat, j < c.size → w.cell? ⟨g, j, none⟩ = c[j]?)
    (hu : P.underlying ty = some d) (hd : (match d with | .struct _ | .array _ _ => true | _ => false) = true) (hi : (P.info? ty).map (·.size) = some c.size) :
    (loadVar ty ⟨g, 0, none⟩).run P w = .ok (.agg c) w := by
 have hl : (loadCells ⟨g, 0, none⟩ c.toList.length).run P w = .ok c.toList.toArray w :=
  run_loadCells_list (P := P) w ⟨g, 0, none⟩ c.toList (fun j v hv => by
   have hadd : (⟨g, 0, none⟩ : Addr).add j = ⟨g, j, none⟩ := by unfold Addr.add; split <;> simp_all
   have hj : j < c.size := by have := (List.getElem?_eq_some_iff.1 hv).1; simpa using this
   rw [hadd, hc j hj]
   simpa using hv)
 cases hq : P.info? ty with
 | none => simp [hq] at hi
 | some i =>
  have hs : i.size = c.size := by simpa [hq] using hi
  have hagg : (isAgg ty).run P w = .ok true w := by
   unfold isAgg
   rw [Sem.run_bind, run_underlying hu w]
   cases d <;> simp_all
  simp only [Array.length_toList, Array.toArray_toList] at hl
  simp [loadVar, Sem.run_bind, hagg, sizeOf, typeInfo, hq, hs, hl]
theorem ldvar_later {B b0 : Nat} {w : World} {g ty : Nat} {c : Array Value} {t : TypeId} {d : TypeDesc} (hg : w.heap[g]? = some (.cells c t)) (hB : g < B) (hne : g ≠ b0)
    (hu : P.underlying ty = some d) (hd : (match d with | .struct _ | .array _ _ => true | _ => false) = true) (hi : (P.info? ty).map (·.size) = some c.size) (u : LaterX B b0 w) :
    (loadVar ty ⟨g, 0, none⟩).run P u.world = .ok (.agg c) u.world :=
 ldvar_cells (fun j _ => by rw [u.same g j hB hne, cell_of_row w g j c t (0, 0) hg]) hu hd hi
theorem wpQuiet_row {ops : Array Oper} {C : World → Prop} {Q : Act → Prop} {a : Act} {o : Oper} {rest : List Oper} (hgd : o.guard = none) (ty : TypeId) (x : Operand) (ho : o.op = .load ty x)
    (g : Nat) (hx : a.eval x = .pointer (some ⟨g, 0, none⟩)) (c : Array Value) (hl : ∀ w, C w → (loadVar ty ⟨g, 0, none⟩).run P w = .ok (.agg c) w) (h : wpQuiet P ops C Q rest (a.put o.dst (.agg c))) : wpQuiet P ops C Q (o :: rest) a := by
 unfold wpQuiet
 rw [if_pos (by simp [Region.wanted, hgd])]
 refine ⟨_, fun w hw => ?_, h⟩
 unfold Oper.quietAt execOp
 simp only [ho, hx, Instr.loadAt, Instr.sureAddr, Sem.run_bind, Sem.run_pure, Result.andThen_ok, hl w hw]
 exact ⟨rfl, rfl⟩
theorem below_setRow {B X : Nat} {w0 w : World} (h : Below B w0 w) (hX : B ≤ X) (c : Array Value) : Below B w0 (w.setRow X c) :=
 h.trans ⟨rfl, rfl, rfl, by rw [setRow_size]; exact Nat.le_refl _, fun k hk => setRow_other w X k c (by omega)⟩
theorem sameX_setRow {B b0 : Nat} {w w1 : World} (h : SameX B b0 w w1) (c : Array Value) : SameX B b0 w (w1.setRow b0 c) := fun b o hb hne => by
 rw [cell_setRow_other w1 b0 c _ (by exact hne)]; exact h b o hb hne
theorem mapG_setRow {α : Type} {K : TypeId} {kl : α → Lit} {ok : α → Prop} {w : World} {b n X : Nat} {t : TypeId} {f : α → Option Value} {c : Array Value} (h : MapG P K kl ok w b n f) (hx : w.heap[X]? = some (.cells c t)) (c' : Array Value) : MapG P K kl ok (w.setRow X c') b n f := by
 refine h.other fun o ho hc hl => ?_
 rw [setRow_other w X b c' (fun e => ?_)]
 ·exact ho
 ·subst e; rw [hx] at ho; exact hc c t _ (Option.some.inj ho).symm
end
end Go.Proofs.YtdjinmieogpgcaaGreat
