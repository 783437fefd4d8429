import Derived.Deep.CutRange
import Derived.Test.YtdjinmieogpgcaaGreatMWide12
/- Wide numbers: wideGcd. -/
namespace Go.Proofs.YtdjinmieogpgcaaGreat
open Go.RowKit
set_option linter.unusedVariables false
def dgs (w : World) (a : Option Addr) (n : Nat) : List Int := match a with
 | some ⟨b, o, none⟩ => (List.range n).map (fun i => match w.cell? ⟨b, o + i, none⟩ with | some (.int _ z) => z | _ => 0)
 | _ => []
theorem dgs_eq {w : World} {a : Option Addr} {n : Nat} {l : List Int} (h : IntsR w a n l) : dval (dgs w a n) = dval l := by
 rcases n with _ | n
 ·have hl := h.len
  rw [List.eq_nil_of_length_eq_zero hl]
  unfold dgs
  split <;> rfl
 ·obtain ⟨b, o, rfl, hb, hc⟩ := h.addr (by omega)
  congr 1
  apply List.ext_getElem
  ·simp [dgs, h.len]
  ·intro i h1 h2
   simp only [dgs, List.getElem_map, List.getElem_range]
   rw [hc i (by rw [h.len] at h2; exact h2)]
   simp [List.getD, h2]
def wat (w : World) (B : Nat) : Nat := match w.cell? ⟨B, 1, none⟩ with
 | some (.slice a n _) => (dval (dgs w a n)).toNat
 | _ => 0
theorem wat_eq {p : Nat → Prop} {w : World} {B : Nat} {s : Int} {a : Option Addr} {n c : Nat} {z : Int} (hc : w.cell? ⟨B, 1, none⟩ = some (.slice a n c)) (h : WideR p w (.agg #[.int .i64 s, .slice a n c]) z) : wat w B = z.natAbs := by
 obtain ⟨a', n', c', l, he, h2, h3, h4, h5, h6, h7⟩ := h
 simp only [Value.agg.injEq, Array.mk.injEq, List.cons.injEq, Value.slice.injEq, Value.int.injEq, and_true, true_and] at he
 obtain ⟨_, rfl, rfl, rfl⟩ := he
 unfold wat
 rw [hc]
 show (dval (dgs w a n)).toNat = _
 rw [dgs_eq h2, h5]; omega
theorem has_digits {b : Int} (hb : 0 < b) : ∀ {K : Nat}, b < pw K → ∃ m, m + 1 ≤ K ∧ pw m ≤ b ∧ b < pw (m + 1)
 | 0, h => by simp [pw] at h; omega
 | K + 1, h => by
  by_cases h1 : b < pw K
  ·obtain ⟨m, h2, h3, h4⟩ := has_digits hb h1
   exact ⟨m, by omega, h3, h4⟩
  ·exact ⟨K, Nat.le_refl _, by omega, h⟩
theorem quot_digits {a b : Int} {K m : Nat} (ha : 0 ≤ a) (hb : 0 < b) (hK : a < pw K) (hm : pw m ≤ b) (hmK : m + 1 ≤ K) : 0 ≤ a / b ∧ ((a / b).natAbs : Int) < pw (K - m) := by
 have h0 := Int.ediv_nonneg ha (Int.le_of_lt hb)
 have h1 : a / b * b ≤ a := Int.ediv_mul_le a (by omega)
 have h2 : a / b * pw m ≤ a / b * b := Int.mul_le_mul_of_nonneg_left hm h0
 have h3 : pw K = pw (K - m) * pw m := by rw [← pw_add]; congr 1; omega
 refine ⟨h0, ?_⟩
 have h4 : a / b < pw (K - m) := by
  by_cases h : a / b < pw (K - m)
  ·exact h
  ·exfalso
   have h5 : pw (K - m) * pw m ≤ a / b * pw m := Int.mul_le_mul_of_nonneg_right (by omega) (by have := pw_pos m; omega)
   omega
 omega
theorem rest_bd {a b : Int} (ha : 0 ≤ a) (hb : 0 < b) : 0 ≤ a - a / b * b ∧ a - a / b * b < b ∧ 0 ≤ a / b * b := by
 have h0 := Int.mul_nonneg (Int.ediv_nonneg ha (Int.le_of_lt hb)) (Int.le_of_lt hb)
 have h := Int.mul_ediv_add_emod a b
 have h1 := Int.emod_nonneg a (show b ≠ 0 by omega)
 have h2 := Int.emod_lt_of_pos a hb
 have : a - a / b * b = a % b := by grind
 omega
set_option maxHeartbeats 1000000 in
set_option maxRecDepth 100000 in
theorem wideGcd_any (p : Nat → Prop) (va vb : Value) (x y : Int) (K : Nat) (w : World) (h : WideR p w va x) (h' : WideR p w vb y) (hp : ∀ b, p b → b < w.heap.size) (hx : (x.natAbs : Int) < pw K) (hy : (y.natAbs : Int) < pw K) (hK : K ≤ 800000) :
    Calls Tryz.prog 162 #[va, vb] w fun e' w' => ∃ v', e' = .returned v' ∧ Below w.heap.size w w' ∧ WideR (fun b => p b ∨ w.heap.size ≤ b) w' v' ((Int.gcd x y : Nat) : Int) := by
 have HP := Lib.hid hp
 have HXS := Lib.hid (fun (w' : World) (hb : Below w.heap.size w w') => wideSize_any p va x w' (h.below hb) (fun b hb2 => Nat.lt_of_lt_of_le (hp b hb2) hb.size))
 have HYS := Lib.hid (fun (w' : World) (hb : Below w.heap.size w w') => wideSize_any p vb y w' (h'.below hb) (fun b hb2 => Nat.lt_of_lt_of_le (hp b hb2) hb.size))
 have HXK := Lib.hid (And.intro hx hy)
 obtain ⟨a1, n1, c1, l1, rfl, h2, h3, h4, h5, h6, h7⟩ := h
 obtain ⟨a2, n2, c2, l2, rfl, k2, k3, k4, k5, k6, k7⟩ := h'
 clear h2 h3 h4 h5 h6 h7 k2 k3 k4 k5 k6 k7 hx hy hp
 obtain ⟨s, hs⟩ : ∃ s, s = x.sign := ⟨_, rfl⟩
 obtain ⟨t, ht⟩ : ∃ t, t = y.sign := ⟨_, rfl⟩
 rw [← hs] at HXS ⊢
 rw [← ht] at HYS ⊢
 clear hs ht
 go_enter Tryz.func162, Tryz.ntmps162
 go_wp2_with fail
 generalize hW : World.alloc _ _ = w6
 have hb6 : Below w.heap.size w w6 := by rw [← hW]; (first|exact bwg|go_size)
 have hz6 : w6.heap.size = w.heap.size + 1 + 1 + 1 := by rw [← hW]; simp
 have u0 : w6.cell? ⟨w.heap.size, 0, none⟩ = some (.int .i64 s) := by { rw [← hW]; clear hW; go_simp }
 have u1 : w6.cell? ⟨w.heap.size, 1, none⟩ = some (.slice a1 n1 c1) := by { rw [← hW]; clear hW; go_simp }
 have v0 : w6.cell? ⟨w.heap.size + 1, 0, none⟩ = some (.int .i64 t) := by { rw [← hW]; clear hW; go_simp }
 have v1 : w6.cell? ⟨w.heap.size + 1, 1, none⟩ = some (.slice a2 n2 c2) := by { rw [← hW]; clear hW; go_simp }
 have z0 : w6.cell? ⟨w.heap.size + 1 + 1, 0, none⟩ = some (.int .i64 0) := by { rw [← hW]; clear hW; go_simp }
 have z1 : w6.cell? ⟨w.heap.size + 1 + 1, 1, none⟩ = some (.slice none 0 0) := by { rw [← hW]; clear hW; go_simp }
 have g0 : w6.frozen? ⟨w.heap.size, 0, none⟩ = false := by { rw [← hW]; clear hW; go_simp }
 have g1 : w6.frozen? ⟨w.heap.size, 1, none⟩ = false := by { rw [← hW]; clear hW; go_simp }
 have h0 : w6.frozen? ⟨w.heap.size + 1, 0, none⟩ = false := by { rw [← hW]; clear hW; go_simp }
 have h1 : w6.frozen? ⟨w.heap.size + 1, 1, none⟩ = false := by { rw [← hW]; clear hW; go_simp }
 have f0 : w6.frozen? ⟨w.heap.size + 1 + 1, 0, none⟩ = false := by { rw [← hW]; clear hW; go_simp }
 have f1 : w6.frozen? ⟨w.heap.size + 1 + 1, 1, none⟩ = false := by { rw [← hW]; clear hW; go_simp }
 have l0 : w.heap.size < w6.heap.size := by omega
 have l1 : w.heap.size + 1 < w6.heap.size := by omega
 have HB6 := Lib.hid hb6
 clear hW hb6
 refine wp_region_laterY (B := w.heap.size + 1 + 1 + 1) [0, 2] [1, 3] [4, 5] (by kernel_rfl) (by kernel_rfl) ?_; simp only [List.filterMap_cons, List.filterMap_nil, List.getElem?_cons_zero, List.getElem?_cons_succ]; repeat (show wpQuiet _ _ _ _ (_ :: _) _; go_big_quiet_step (fail))
 refine wpQuiet_nil ?_
 refine tailY_cons ?_
 go_wp2_with fail
 refine (HXS.out _ HB6.out.drew).mono ?_
 rintro e7 w7 ⟨v7, rfl, hb7, hW7⟩
 have hb7' : Below (w.heap.size + 1 + 1 + 1) w6 w7 := (Below.refl (w.heap.size + 1 + 1 + 1) w6).drew.trans (hb7.mono (by simp; omega))
 have HW7 := Lib.hid hW7
 obtain ⟨a7, n7, c7, l7, rfl, _⟩ := hW7
 have hz7 := hb7'.size
 have HB7 := Lib.hid hb7'
 clear hb7 hb7' HXS
 obtain ⟨s7, hs7⟩ : ∃ s, s = ((x.natAbs : Int)).sign := ⟨_, rfl⟩
 rw [← hs7] at HW7 ⊢
 clear hs7
 go_wp2_with fail
 refine tailL_mk HB7.out ?_
 refine tailY_cons ?_
 go_wp2_with fail
 refine (HYS.out _ (HB6.out.trans (HB7.out.mono (by omega)))).mono ?_
 rintro e8 w8 ⟨v8, rfl, hb8, hW8⟩
 have hb8' : Below (w.heap.size + 1 + 1 + 1) w6 w8 := HB7.out.trans (hb8.mono (by omega))
 have HW8 := Lib.hid hW8
 have HW78 := Lib.hid (HW7.out.below hb8)
 obtain ⟨a8, n8, c8, l8, rfl, _⟩ := hW8
 have hz8 := hb8.size
 have u0a : w8.cell? ⟨w.heap.size, 0, none⟩ = some (.int .i64 (s)) := bwc hb8'; have u1a : w8.cell? ⟨w.heap.size, 1, none⟩ = some (.slice a1 n1 c1) := bwc hb8'; have v0a : w8.cell? ⟨w.heap.size + 1, 0, none⟩ = some (.int .i64 (t)) := bwc hb8'; have v1a : w8.cell? ⟨w.heap.size + 1, 1, none⟩ = some (.slice a2 n2 c2) := bwc hb8'; have z0a : w8.cell? ⟨w.heap.size + 1 + 1, 0, none⟩ = some (.int .i64 0) := bwc hb8'; have z1a : w8.cell? ⟨w.heap.size + 1 + 1, 1, none⟩ = some (.slice none 0 0) := bwc hb8'; have g0a : w8.frozen? ⟨w.heap.size, 0, none⟩ = false := bwf hb8'; have g1a : w8.frozen? ⟨w.heap.size, 1, none⟩ = false := bwf hb8'; have h0a : w8.frozen? ⟨w.heap.size + 1, 0, none⟩ = false := bwf hb8'; have h1a : w8.frozen? ⟨w.heap.size + 1, 1, none⟩ = false := bwf hb8'; have f0a : w8.frozen? ⟨w.heap.size + 1 + 1, 0, none⟩ = false := bwf hb8'; have f1a : w8.frozen? ⟨w.heap.size + 1 + 1, 1, none⟩ = false := bwf hb8'; have l0a : w.heap.size < w8.heap.size := by { omega }; have l1a : w.heap.size + 1 < w8.heap.size := by { omega }; have l2a : w.heap.size + 1 + 1 < w8.heap.size := by { omega }
 have HB8 := Lib.hid hb8'
 clear hb8 hb8' HYS HW7 u0 u1 v0 v1 z0 z1 g0 g1 h0 h1 f0 f1
 obtain ⟨s8, hs8⟩ : ∃ s, s = ((y.natAbs : Int)).sign := ⟨_, rfl⟩
 rw [← hs8] at HW8 ⊢
 clear hs8
 go_wp2_with fail
 refine tailL_mk HB8.out ?_
 refine tailY_ends ?_
 refine ends_cons ?_
 go_wp2_with fail
 refine tailZ_end ?_
 refine ends_cons ?_
 go_wp2_with fail
 refine tailZ_end ?_
 refine ends_nil ?_
 go_wp2_with fail
 generalize hW : World.setCell _ _ _ = w9
 have u0 : w9.cell? ⟨w.heap.size, 0, none⟩ = some (.int .i64 s7) := by { rw [← hW]; clear hW; go_simp }
 have u1 : w9.cell? ⟨w.heap.size, 1, none⟩ = some (.slice a7 n7 c7) := by { rw [← hW]; clear hW; go_simp }
 have v0 : w9.cell? ⟨w.heap.size + 1, 0, none⟩ = some (.int .i64 s8) := by { rw [← hW]; clear hW; go_simp }
 have v1 : w9.cell? ⟨w.heap.size + 1, 1, none⟩ = some (.slice a8 n8 c8) := by { rw [← hW]; clear hW; go_simp }
 have z0 : w9.cell? ⟨w.heap.size + 1 + 1, 0, none⟩ = some (.int .i64 0) := by { rw [← hW]; clear hW; go_simp }
 have z1 : w9.cell? ⟨w.heap.size + 1 + 1, 1, none⟩ = some (.slice none 0 0) := by { rw [← hW]; clear hW; go_simp }
 have g0 : w9.frozen? ⟨w.heap.size, 0, none⟩ = false := by { rw [← hW]; clear hW; go_simp }
 have g1 : w9.frozen? ⟨w.heap.size, 1, none⟩ = false := by { rw [← hW]; clear hW; go_simp }
 have h0 : w9.frozen? ⟨w.heap.size + 1, 0, none⟩ = false := by { rw [← hW]; clear hW; go_simp }
 have h1 : w9.frozen? ⟨w.heap.size + 1, 1, none⟩ = false := by { rw [← hW]; clear hW; go_simp }
 have f0 : w9.frozen? ⟨w.heap.size + 1 + 1, 0, none⟩ = false := by { rw [← hW]; clear hW; go_simp }
 have f1 : w9.frozen? ⟨w.heap.size + 1 + 1, 1, none⟩ = false := by { rw [← hW]; clear hW; go_simp }
 have hz9 : w9.heap.size = w8.heap.size := by rw [← hW]; simp
 have hst : ∀ b, p b → w9.heap[b]? = w8.heap[b]? := fun b hb => by
  have := HP.out b hb
  rw [← hW, Go.Deep.blk_setCell_other _ _ _ _ (by simp; omega), Go.Deep.blk_setCell_other _ _ _ _ (by simp; omega), Go.Deep.blk_setCell_other _ _ _ _ (by simp; omega), Go.Deep.blk_setCell_other _ _ _ _ (by simp; omega)]
 have HU := Lib.hid ((HW78.out.kept (by omega) hst).mono (q := fun b => p b ∨ w.heap.size + 3 ≤ b) (fun b hb => .inl hb))
 have HV := Lib.hid ((HW8.out.kept (by omega) hst).mono (q := fun b => p b ∨ w.heap.size + 3 ≤ b) (fun b hb => .inl hb))
 have hb9 : Below w.heap.size w w9 := by
  rw [← hW]
  exact ((((HB6.out.trans (HB8.out.mono (by omega))).setCell (by simp) _).setCell (by simp) _).setCell (by simp) _).setCell (by simp) _
 have HB9 := Lib.hid hb9
 clear hW hst hb9 u0a u1a v0a v1a z0a z1a g0a g1a h0a h1a f0a f1a l0a l1a l2a HW78 HW8 HB7 HB8
 have hz9' : w.heap.size + 3 ≤ w9.heap.size := by omega
 go_loopw [] (fun wr => ∃ (s t : Int) (a1 a2 : Option Addr) (n1 c1 n2 c2 u v : Nat), wr.cell? ⟨w.heap.size, 0, none⟩ = some (.int .i64 s) ∧ wr.cell? ⟨w.heap.size, 1, none⟩ = some (.slice a1 n1 c1) ∧ wr.cell? ⟨w.heap.size + 1, 0, none⟩ = some (.int .i64 t) ∧ wr.cell? ⟨w.heap.size + 1, 1, none⟩ = some (.slice a2 n2 c2)
  ∧ wr.cell? ⟨w.heap.size + 1 + 1, 0, none⟩ = some (.int .i64 0) ∧ wr.cell? ⟨w.heap.size + 1 + 1, 1, none⟩ = some (.slice none 0 0) ∧ wr.frozen? ⟨w.heap.size, 0, none⟩ = false ∧ wr.frozen? ⟨w.heap.size, 1, none⟩ = false ∧ wr.frozen? ⟨w.heap.size + 1, 0, none⟩ = false ∧ wr.frozen? ⟨w.heap.size + 1, 1, none⟩ = false ∧ wr.frozen? ⟨w.heap.size + 1 + 1, 0, none⟩ = false ∧ wr.frozen? ⟨w.heap.size + 1 + 1, 1, none⟩ = false
  ∧ Hid (WideR (fun b => p b ∨ w.heap.size + 3 ≤ b) wr (.agg #[.int .i64 s, .slice a1 n1 c1]) (u : Int)) ∧ Hid (WideR (fun b => p b ∨ w.heap.size + 3 ≤ b) wr (.agg #[.int .i64 t, .slice a2 n2 c2]) (v : Int)) ∧ Hid (Nat.gcd u v = Int.gcd x y ∧ (u : Int) < pw K ∧ (v : Int) < pw K) ∧ Hid (Below w.heap.size w wr) ∧ w.heap.size + 3 ≤ wr.heap.size) (fun wr => wat wr (w.heap.size + 1))
 case atStart =>
  exact ⟨s7, s8, a7, a8, n7, c7, n8, c8, x.natAbs, y.natAbs, u0, u1, v0, v1, z0, z1, g0, g1, h0, h1, f0, f1, HU, HV, Lib.hid ⟨rfl, HXK.out.1, HXK.out.2⟩, HB9, hz9'⟩
 case round =>
  clear u0 u1 v0 v1 z0 z1 g0 g1 h0 h1 f0 f1 HU HV HB9 l0 l1
  obtain ⟨s, t, a1, a2, n1, c1, n2, c2, u, v, u0, u1, v0, v1, z0, z1, g0, g1, h0, h1, f0, f1, hU, hV, hG, hB, hz⟩ := hrel
  obtain ⟨wh, rfl⟩ : ∃ w', w' = wr := ⟨wr, rfl⟩
  have HU := Lib.hid hU.out
  have HV := Lib.hid hV.out
  have HG := Lib.hid hG.out
  have HB := Lib.hid hB.out
  have l0 : w.heap.size < wh.heap.size := by omega
  have l1 : w.heap.size + 1 < wh.heap.size := by omega
  have l2 : w.heap.size + 1 + 1 < wh.heap.size := by omega
  clear hU hV hG hB
  go_wp2_with fail
  refine (wideSign_any _ _ _ wh HV.out).mono ?_
  rintro e7 w7 ⟨rfl, hb7⟩
  have hz7 := hb7.size
  have u0a : w7.cell? ⟨w.heap.size, 0, none⟩ = some (.int .i64 (s)) := bwc hb7; have u1a : w7.cell? ⟨w.heap.size, 1, none⟩ = some (.slice a1 n1 c1) := bwc hb7; have v0a : w7.cell? ⟨w.heap.size + 1, 0, none⟩ = some (.int .i64 (t)) := bwc hb7; have v1a : w7.cell? ⟨w.heap.size + 1, 1, none⟩ = some (.slice a2 n2 c2) := bwc hb7; have z0a : w7.cell? ⟨w.heap.size + 1 + 1, 0, none⟩ = some (.int .i64 0) := bwc hb7; have z1a : w7.cell? ⟨w.heap.size + 1 + 1, 1, none⟩ = some (.slice none 0 0) := bwc hb7; have g0a : w7.frozen? ⟨w.heap.size, 0, none⟩ = false := bwf hb7; have g1a : w7.frozen? ⟨w.heap.size, 1, none⟩ = false := bwf hb7; have h0a : w7.frozen? ⟨w.heap.size + 1, 0, none⟩ = false := bwf hb7; have h1a : w7.frozen? ⟨w.heap.size + 1, 1, none⟩ = false := bwf hb7; have f0a : w7.frozen? ⟨w.heap.size + 1 + 1, 0, none⟩ = false := bwf hb7; have f1a : w7.frozen? ⟨w.heap.size + 1 + 1, 1, none⟩ = false := bwf hb7; have l0a : w.heap.size < w7.heap.size := by { omega }; have l1a : w.heap.size + 1 < w7.heap.size := by { omega }; have l2a : w.heap.size + 1 + 1 < w7.heap.size := by { omega }
  have HB7 := Lib.hid (HB.out.trans (hb7.mono (by omega)))
  have HU7 := Lib.hid (HU.out.below hb7)
  have HV7 := Lib.hid (HV.out.below hb7)
  have HWT := Lib.hid (show wat wh (w.heap.size + 1) = v by rw [wat_eq v1 HV.out]; simp)
  clear hb7 u0 u1 v0 v1 z0 z1 g0 g1 h0 h1 f0 f1 HU HV HB l0 l1 l2
  by_cases hv0 : v = 0
  ·have hsv : ((v : Int)).sign = 0 := by rw [hv0]; rfl
   have HGC := Lib.hid (show ((Int.gcd x y : Nat) : Int) = (u : Int) by rw [← HG.out.1, hv0, Nat.gcd_zero_right])
   rw [hsv]
   clear hsv hv0
   go_wp2
   refine bodyPost_ret (v := .agg #[.int .i64 s, .slice a1 n1 c1]) (by simp [results, Tryz.results162, go_sem, *]) rfl ⟨_, rfl, ((HB7.out.setCell (by simp; omega) _).setCell (by simp; omega) _), ?_⟩
   rw [HGC.out]
   refine WideR.mono (p := fun b => p b ∨ w.heap.size + 3 ≤ b) (WideR.kept (w := w7) HU7.out (by simp) (fun b hb => ?_)) (fun b hb => hb.imp id (fun h => by omega))
   have hne : b ≠ w.heap.size + 1 + 1 := by
    rcases hb with hb | hb
    ·have := HP.out b hb; omega
    ·omega
   rw [Go.Deep.blk_setCell_other _ _ _ _ (by simpa using hne), Go.Deep.blk_setCell_other _ _ _ _ (by simpa using hne)]
  ·have hsv : ((v : Int)).sign = 1 := Int.sign_eq_one_of_pos (by omega)
   have hv1 : (0 : Int) < (v : Int) := by omega
   have HV1 := Lib.hid hv1
   obtain ⟨m, hm1, hm2, hm3⟩ := has_digits hv1 HG.out.2.2
   obtain ⟨hq0, hq1⟩ := quot_digits (a := (u : Int)) (by omega) hv1 HG.out.2.1 hm2 hm1
   have HQD := Lib.hid (And.intro hm1 (And.intro hm3 hq1))
   have HRB := Lib.hid (rest_bd (a := (u : Int)) (by omega) hv1)
   rw [hsv]
   clear hsv hv0 hv1 hm1 hm2 hm3 hq0 hq1
   go_wp2_with fail
   have HU8 := Lib.hid HU7.out.here
   have HV8 := Lib.hid HV7.out.here
   go_cut [5] from 10 to 21 (fun v5 wx => ∃ (X9 : Nat) (sr : Int) (ar : Option Addr) (nr cr : Nat), v5 = .pointer (some ⟨X9, 0, none⟩) ∧ wx.cell? ⟨X9, 0, none⟩ = some (.int .i64 sr) ∧ wx.cell? ⟨X9, 1, none⟩ = some (.slice ar nr cr) ∧ X9 < wx.heap.size ∧ w7.heap.size ≤ X9 ∧ Hid (WideR (fun b => p b ∨ w.heap.size + 3 ≤ b) wx (.agg #[.int .i64 sr, .slice ar nr cr]) ((u : Int) - (u : Int) / (v : Int) * (v : Int))) ∧ Hid (Below w7.heap.size w7 wx))
   case first =>
    have HN := Lib.hid (Below.refl w7.heap.size w7).drew
    refine wp_region_laterT (B := w7.heap.size) (.head 0 (.head 1 (.head 2 (.head 4 (.two 3 (.two 5 (.two 6 (.one 7 (.one 8 .done)) 7 (.one 6 (.one 8 .done))) 7 (.one 5 (.one 6 (.one 8 .done)))) 7 (.one 3 (.one 5 (.one 6 (.one 8 .done))))))))) (by kernel_rfl) (by kernel_rfl) ?_
    repeat (refine tree_head rfl ?_; (show wpQuiet _ _ _ _ (_ :: _) _; go_big_quiet_step (fail)); refine wpQuiet_nil ?_)
    refine tree_two rfl rfl ?_ ?_
    ·go_wp2_with fail
     refine (wideFloor_any (fun b => (p b ∨ w.heap.size + 3 ≤ b) ∧ b < w7.heap.size) _ _ (u : Int) (v : Int) K K _ (HU8.out.below HN.out) (HV8.out.below HN.out) (by have := HV1.out; omega) (by have := HG.out.2.1; omega) (by have := HG.out.2.2; omega) (by omega) (by omega)).mono ?_
     rintro eQ va ⟨vq, rfl, hbx, hQ⟩
     have HQ := Lib.hid hQ
     obtain ⟨aq, nq, cq, lq, rfl, _⟩ := hQ
     obtain ⟨sq, hsq⟩ : ∃ s, s = ((u : Int) / (v : Int)).sign := ⟨_, rfl⟩
     rw [← hsq] at HQ ⊢
     clear hsq
     have hzx := hbx.size
     have HN := bwt HN hbx
     have hzy := HN.out.size
     clear hbx
     go_wp2_with fail
     refine tailL_mk HN.out ?_
     refine tree_two rfl rfl ?_ ?_
     ·go_wp2_with fail
      refine (wideMul_any (fun _ => True) _ _ ((u : Int) / (v : Int)) (v : Int) (K - m) (m + 1) _ (HQ.out.mono (fun _ _ => trivial)) ((HV8.out.below HN.out).mono (fun _ _ => trivial)) HQD.out.2.2 (by have := HQD.out.2.1; omega) (by have := HQD.out.1; omega)).mono ?_
      rintro eM vb ⟨vm, rfl, hbx, hM⟩
      have HM := Lib.hid hM.here
      obtain ⟨am, nm, cm, lm, rfl, _⟩ := hM
      obtain ⟨sm, hsm⟩ : ∃ s, s = ((u : Int) / (v : Int) * (v : Int)).sign := ⟨_, rfl⟩
      rw [← hsm] at HM ⊢
      clear hsm
      have hzx := hbx.size
      have HN := bwt HN hbx
      have hzy := HN.out.size
      clear hbx
      go_wp2_with fail
      refine tailL_mk HN.out ?_
      refine tree_two rfl rfl ?_ ?_
      ·go_wp2_with fail
       refine (wideSub_any (fun b => ((p b ∨ w.heap.size + 3 ≤ b) ∧ b < w7.heap.size) ∨ (va.heap.size ≤ b ∧ b < vb.heap.size)) _ _ (u : Int) ((u : Int) / (v : Int) * (v : Int)) K _ ((HU8.out.below HN.out).mono (fun b hb => .inl hb)) (HM.out.mono (fun b hb => .inr (by have := hb; omega))) (fun b hb => by have := HN.out.size; omega) (by have := HG.out.2.1; omega) (by have h1 := HRB.out; have h2 := HG.out.2.1; omega) (by omega)).mono ?_
       rintro eS vc ⟨vr, rfl, hbx, hS⟩
       have HS := Lib.hid hS.here
       obtain ⟨ar, nr, cr, lr, rfl, _⟩ := hS
       obtain ⟨sr, hsr⟩ : ∃ s, s = ((u : Int) - (u : Int) / (v : Int) * (v : Int)).sign := ⟨_, rfl⟩
       rw [← hsr] at HS ⊢
       clear hsr
       have hzx := hbx.size
       have HN := bwt HN hbx
       have hzy := HN.out.size
       clear hbx
       go_wp2_with fail
       refine tailL_mk HN.out ?_
       refine tree_one rfl ?_
       go_wp2_with fail
       obtain ⟨X9, hX9⟩ : ∃ X, X = vc.heap.size := ⟨_, rfl⟩
       have hNX : w7.heap.size ≤ X9 := by rw [hX9]; exact HN.out.size
       have hx9 : (vc.alloc (Obj.cells #[Value.int IntKind.i64 0, Value.slice none 0 0] 172)).heap[X9]? = some (.cells #[Value.int IntKind.i64 0, Value.slice none 0 0] 172) := by rw [hX9]; exact heap_alloc_new _ _
       have l9 : X9 < (vc.alloc (Obj.cells #[Value.int IntKind.i64 0, Value.slice none 0 0] 172)).heap.size := by rw [hX9]; simp
       have hsz9 : (vc.alloc (Obj.cells #[Value.int IntKind.i64 0, Value.slice none 0 0] 172)).heap.size = vc.heap.size + 1 := by simp
       have hbx : Below vc.heap.size vc (vc.alloc (Obj.cells #[Value.int IntKind.i64 0, Value.slice none 0 0] 172)) := by (first|exact bwg|go_size)
       simp only [← hX9]
       generalize vc.alloc (Obj.cells #[Value.int IntKind.i64 0, Value.slice none 0 0] 172) = vd at *
       have HX9 := Lib.hid (And.intro hX9 hsz9)
       clear hX9 hsz9
       have HS := Lib.hid (HS.out.below hbx)
       have hzx := hbx.size
       have HN := bwt HN hbx
       have hzy := HN.out.size
       clear hbx
       refine tailL_mk HN.out ?_
       refine tree_one rfl ?_
       have c90 := cell_of_row _ _ 0 _ _ _ hx9
       have c91 := cell_of_row _ _ 1 _ _ _ hx9
       have f90 := frozen_of_row _ _ 0 _ _ hx9
       have f91 := frozen_of_row _ _ 1 _ _ hx9
       simp only [List.getElem?_toArray, List.getElem?_cons_zero, List.getElem?_cons_succ] at c90 c91
       have HRX := Lib.hid (show WideR (fun b => p b ∨ w.heap.size + 3 ≤ b) ((vd.setCell ⟨X9, 0, none⟩ (.int .i64 sr)).setCell ⟨X9, 1, none⟩ (.slice ar nr cr)) (.agg #[.int .i64 sr, .slice ar nr cr]) ((u : Int) - (u : Int) / (v : Int) * (v : Int)) from
        WideR.mono (p := fun b => (p b ∨ w.heap.size + 3 ≤ b) ∧ b ≠ X9) (WideR.kept (w := vd) (HS.out.mono (fun b hb => by
         obtain ⟨hX9, hsz9⟩ := HX9.out
         obtain ⟨h1, h2⟩ := hb
         rcases h1 with (h1 | h1) | h1
         ·exact ⟨h1.1, by omega⟩
         ·exact ⟨.inr (by omega), by omega⟩
         ·exact ⟨.inr (by omega), by omega⟩)) (by simp) (fun b hb => by rw [Go.Deep.blk_setCell_other _ _ _ _ (by simpa using hb.2), Go.Deep.blk_setCell_other _ _ _ _ (by simpa using hb.2)])) (fun b hb => hb.1))
       go_wp2_with fail
       have HNx := Lib.hid (show Below w7.heap.size w7 ((vd.setCell ⟨X9, 0, none⟩ (.int .i64 sr)).setCell ⟨X9, 1, none⟩ (.slice ar nr cr)) from Below.setCell (Below.setCell HN.out hNX _) hNX _)
       refine tailL_mk HNx.out ?_
       refine tree_done ?_
       go_wp2_with fail
       go_meet
       case rel => exact ⟨X9, sr, ar, nr, cr, rfl, by go_simp, by go_simp, by simpa using l9, hNX, HRX, HNx⟩
      ·go_wp2_with fail
       obtain ⟨X9, hX9⟩ : ∃ X, X = vb.heap.size := ⟨_, rfl⟩
       have hNX : w7.heap.size ≤ X9 := by rw [hX9]; exact HN.out.size
       have hx9 : (vb.alloc (Obj.cells #[Value.int IntKind.i64 0, Value.slice none 0 0] 172)).heap[X9]? = some (.cells #[Value.int IntKind.i64 0, Value.slice none 0 0] 172) := by rw [hX9]; exact heap_alloc_new _ _
       have l9 : X9 < (vb.alloc (Obj.cells #[Value.int IntKind.i64 0, Value.slice none 0 0] 172)).heap.size := by rw [hX9]; simp
       have hsz9 : (vb.alloc (Obj.cells #[Value.int IntKind.i64 0, Value.slice none 0 0] 172)).heap.size = vb.heap.size + 1 := by simp
       have hbx : Below vb.heap.size vb (vb.alloc (Obj.cells #[Value.int IntKind.i64 0, Value.slice none 0 0] 172)) := by (first|exact bwg|go_size)
       simp only [← hX9]
       generalize vb.alloc (Obj.cells #[Value.int IntKind.i64 0, Value.slice none 0 0] 172) = vc at *
       have HX9 := Lib.hid (And.intro hX9 hsz9)
       clear hX9 hsz9
       have HM := Lib.hid (HM.out.below hbx)
       have hzx := hbx.size
       have HN := bwt HN hbx
       have hzy := HN.out.size
       clear hbx
       refine tailL_mk HN.out ?_
       refine tree_one rfl ?_; go_wp2_with fail
       refine (wideSub_any (fun b => ((p b ∨ w.heap.size + 3 ≤ b) ∧ b < w7.heap.size) ∨ (va.heap.size ≤ b ∧ b < vb.heap.size)) _ _ (u : Int) ((u : Int) / (v : Int) * (v : Int)) K _ ((HU8.out.below HN.out).mono (fun b hb => .inl hb)) (HM.out.mono (fun b hb => .inr (by have := hb; omega))) (fun b hb => by have := HN.out.size; omega) (by have := HG.out.2.1; omega) (by have h1 := HRB.out; have h2 := HG.out.2.1; omega) (by omega)).mono ?_
       rintro eS vd ⟨vr, rfl, hbx, hS⟩
       have HS := Lib.hid hS.here
       obtain ⟨ar, nr, cr, lr, rfl, _⟩ := hS
       obtain ⟨sr, hsr⟩ : ∃ s, s = ((u : Int) - (u : Int) / (v : Int) * (v : Int)).sign := ⟨_, rfl⟩
       rw [← hsr] at HS ⊢
       clear hsr
       have hx9 := (hbx.block X9 l9).trans hx9
       have l9 := Nat.lt_of_lt_of_le l9 hbx.size
       have hzx := hbx.size
       have HN := bwt HN hbx
       have hzy := HN.out.size
       clear hbx
       go_wp2_with fail
       refine tailL_mk HN.out ?_
       refine tree_one rfl ?_
       have c90 := cell_of_row _ _ 0 _ _ _ hx9
       have c91 := cell_of_row _ _ 1 _ _ _ hx9
       have f90 := frozen_of_row _ _ 0 _ _ hx9
       have f91 := frozen_of_row _ _ 1 _ _ hx9
       simp only [List.getElem?_toArray, List.getElem?_cons_zero, List.getElem?_cons_succ] at c90 c91
       have HRX := Lib.hid (show WideR (fun b => p b ∨ w.heap.size + 3 ≤ b) ((vd.setCell ⟨X9, 0, none⟩ (.int .i64 sr)).setCell ⟨X9, 1, none⟩ (.slice ar nr cr)) (.agg #[.int .i64 sr, .slice ar nr cr]) ((u : Int) - (u : Int) / (v : Int) * (v : Int)) from
        WideR.mono (p := fun b => (p b ∨ w.heap.size + 3 ≤ b) ∧ b ≠ X9) (WideR.kept (w := vd) (HS.out.mono (fun b hb => by
         obtain ⟨hX9, hsz9⟩ := HX9.out
         obtain ⟨h1, h2⟩ := hb
         rcases h1 with (h1 | h1) | h1
         ·exact ⟨h1.1, by omega⟩
         ·exact ⟨.inr (by omega), by omega⟩
         ·exact ⟨.inr (by omega), by omega⟩)) (by simp) (fun b hb => by rw [Go.Deep.blk_setCell_other _ _ _ _ (by simpa using hb.2), Go.Deep.blk_setCell_other _ _ _ _ (by simpa using hb.2)])) (fun b hb => hb.1))
       go_wp2_with fail
       have HNx := Lib.hid (show Below w7.heap.size w7 ((vd.setCell ⟨X9, 0, none⟩ (.int .i64 sr)).setCell ⟨X9, 1, none⟩ (.slice ar nr cr)) from Below.setCell (Below.setCell HN.out hNX _) hNX _)
       refine tailL_mk HNx.out ?_
       refine tree_done ?_
       go_wp2_with fail
       go_meet
       case rel => exact ⟨X9, sr, ar, nr, cr, rfl, by go_simp, by go_simp, by simpa using l9, hNX, HRX, HNx⟩
     ·go_wp2_with fail
      obtain ⟨X9, hX9⟩ : ∃ X, X = va.heap.size := ⟨_, rfl⟩
      have hNX : w7.heap.size ≤ X9 := by rw [hX9]; exact HN.out.size
      have hx9 : (va.alloc (Obj.cells #[Value.int IntKind.i64 0, Value.slice none 0 0] 172)).heap[X9]? = some (.cells #[Value.int IntKind.i64 0, Value.slice none 0 0] 172) := by rw [hX9]; exact heap_alloc_new _ _
      have l9 : X9 < (va.alloc (Obj.cells #[Value.int IntKind.i64 0, Value.slice none 0 0] 172)).heap.size := by rw [hX9]; simp
      have hsz9 : (va.alloc (Obj.cells #[Value.int IntKind.i64 0, Value.slice none 0 0] 172)).heap.size = va.heap.size + 1 := by simp
      have hbx : Below va.heap.size va (va.alloc (Obj.cells #[Value.int IntKind.i64 0, Value.slice none 0 0] 172)) := by (first|exact bwg|go_size)
      simp only [← hX9]
      generalize va.alloc (Obj.cells #[Value.int IntKind.i64 0, Value.slice none 0 0] 172) = vb at *
      have HX9 := Lib.hid (And.intro hX9 hsz9)
      clear hX9 hsz9
      have HQ := Lib.hid (HQ.out.below hbx)
      have hzx := hbx.size
      have HN := bwt HN hbx
      have hzy := HN.out.size
      clear hbx
      refine tailL_mk HN.out ?_
      refine tree_one rfl ?_; go_wp2_with fail
      refine (wideMul_any (fun _ => True) _ _ ((u : Int) / (v : Int)) (v : Int) (K - m) (m + 1) _ (HQ.out.mono (fun _ _ => trivial)) ((HV8.out.below HN.out).mono (fun _ _ => trivial)) HQD.out.2.2 (by have := HQD.out.2.1; omega) (by have := HQD.out.1; omega)).mono ?_
      rintro eM vc ⟨vm, rfl, hbx, hM⟩
      have HM := Lib.hid hM.here
      obtain ⟨am, nm, cm, lm, rfl, _⟩ := hM
      obtain ⟨sm, hsm⟩ : ∃ s, s = ((u : Int) / (v : Int) * (v : Int)).sign := ⟨_, rfl⟩
      rw [← hsm] at HM ⊢
      clear hsm
      have hx9 := (hbx.block X9 l9).trans hx9
      have l9 := Nat.lt_of_lt_of_le l9 hbx.size
      have hzx := hbx.size
      have HN := bwt HN hbx
      have hzy := HN.out.size
      clear hbx
      go_wp2_with fail
      refine tailL_mk HN.out ?_
      refine tree_one rfl ?_; go_wp2_with fail
      refine (wideSub_any (fun b => ((p b ∨ w.heap.size + 3 ≤ b) ∧ b < w7.heap.size) ∨ (vb.heap.size ≤ b ∧ b < vc.heap.size)) _ _ (u : Int) ((u : Int) / (v : Int) * (v : Int)) K _ ((HU8.out.below HN.out).mono (fun b hb => .inl hb)) (HM.out.mono (fun b hb => .inr (by have := hb; omega))) (fun b hb => by have := HN.out.size; omega) (by have := HG.out.2.1; omega) (by have h1 := HRB.out; have h2 := HG.out.2.1; omega) (by omega)).mono ?_
      rintro eS vd ⟨vr, rfl, hbx, hS⟩
      have HS := Lib.hid hS.here
      obtain ⟨ar, nr, cr, lr, rfl, _⟩ := hS
      obtain ⟨sr, hsr⟩ : ∃ s, s = ((u : Int) - (u : Int) / (v : Int) * (v : Int)).sign := ⟨_, rfl⟩
      rw [← hsr] at HS ⊢
      clear hsr
      have hx9 := (hbx.block X9 l9).trans hx9
      have l9 := Nat.lt_of_lt_of_le l9 hbx.size
      have hzx := hbx.size
      have HN := bwt HN hbx
      have hzy := HN.out.size
      clear hbx
      go_wp2_with fail
      refine tailL_mk HN.out ?_
      refine tree_one rfl ?_
      have c90 := cell_of_row _ _ 0 _ _ _ hx9
      have c91 := cell_of_row _ _ 1 _ _ _ hx9
      have f90 := frozen_of_row _ _ 0 _ _ hx9
      have f91 := frozen_of_row _ _ 1 _ _ hx9
      simp only [List.getElem?_toArray, List.getElem?_cons_zero, List.getElem?_cons_succ] at c90 c91
      have HRX := Lib.hid (show WideR (fun b => p b ∨ w.heap.size + 3 ≤ b) ((vd.setCell ⟨X9, 0, none⟩ (.int .i64 sr)).setCell ⟨X9, 1, none⟩ (.slice ar nr cr)) (.agg #[.int .i64 sr, .slice ar nr cr]) ((u : Int) - (u : Int) / (v : Int) * (v : Int)) from
       WideR.mono (p := fun b => (p b ∨ w.heap.size + 3 ≤ b) ∧ b ≠ X9) (WideR.kept (w := vd) (HS.out.mono (fun b hb => by
        obtain ⟨hX9, hsz9⟩ := HX9.out
        obtain ⟨h1, h2⟩ := hb
        rcases h1 with (h1 | h1) | h1
        ·exact ⟨h1.1, by omega⟩
        ·exact ⟨.inr (by omega), by omega⟩
        ·exact ⟨.inr (by omega), by omega⟩)) (by simp) (fun b hb => by rw [Go.Deep.blk_setCell_other _ _ _ _ (by simpa using hb.2), Go.Deep.blk_setCell_other _ _ _ _ (by simpa using hb.2)])) (fun b hb => hb.1))
      go_wp2_with fail
      have HNx := Lib.hid (show Below w7.heap.size w7 ((vd.setCell ⟨X9, 0, none⟩ (.int .i64 sr)).setCell ⟨X9, 1, none⟩ (.slice ar nr cr)) from Below.setCell (Below.setCell HN.out hNX _) hNX _)
      refine tailL_mk HNx.out ?_
      refine tree_done ?_
      go_wp2_with fail
      go_meet
      case rel => exact ⟨X9, sr, ar, nr, cr, rfl, by go_simp, by go_simp, by simpa using l9, hNX, HRX, HNx⟩
    ·go_wp2_with fail
     obtain ⟨X9, hX9⟩ : ∃ X, X = w7.heap.size := ⟨_, rfl⟩
     have hNX : w7.heap.size ≤ X9 := by omega
     have hx9 : (w7.alloc (Obj.cells #[Value.int IntKind.i64 0, Value.slice none 0 0] 172)).drew.heap[X9]? = some (.cells #[Value.int IntKind.i64 0, Value.slice none 0 0] 172) := by rw [hX9]; exact heap_alloc_new _ _
     have l9 : X9 < (w7.alloc (Obj.cells #[Value.int IntKind.i64 0, Value.slice none 0 0] 172)).drew.heap.size := by rw [hX9]; simp
     have hsz9 : (w7.alloc (Obj.cells #[Value.int IntKind.i64 0, Value.slice none 0 0] 172)).drew.heap.size = X9 + 1 := by rw [hX9]; simp
     have hbx : Below w7.heap.size w7 (w7.alloc (Obj.cells #[Value.int IntKind.i64 0, Value.slice none 0 0] 172)).drew := by (first|exact bwg|go_size)
     try simp only [← hX9]
     generalize (w7.alloc (Obj.cells #[Value.int IntKind.i64 0, Value.slice none 0 0] 172)).drew = va at *
     have HX9 := Lib.hid (And.intro hX9 hsz9)
     clear hX9 hsz9
     have HN := Lib.hid hbx
     clear hbx
     refine tailL_mk HN.out ?_
     refine tree_one rfl ?_; go_wp2_with fail
     refine (wideFloor_any (fun b => (p b ∨ w.heap.size + 3 ≤ b) ∧ b < w7.heap.size) _ _ (u : Int) (v : Int) K K _ (HU8.out.below HN.out) (HV8.out.below HN.out) (by have := HV1.out; omega) (by have := HG.out.2.1; omega) (by have := HG.out.2.2; omega) (by omega) (by omega)).mono ?_
     rintro eQ vb ⟨vq, rfl, hbx, hQ⟩
     have HQ := Lib.hid hQ
     obtain ⟨aq, nq, cq, lq, rfl, _⟩ := hQ
     obtain ⟨sq, hsq⟩ : ∃ s, s = ((u : Int) / (v : Int)).sign := ⟨_, rfl⟩
     rw [← hsq] at HQ ⊢
     clear hsq
     have hx9 := (hbx.block X9 l9).trans hx9
     have l9 := Nat.lt_of_lt_of_le l9 hbx.size
     have hzx := hbx.size
     have HN := bwt HN hbx
     have hzy := HN.out.size
     clear hbx
     go_wp2_with fail
     refine tailL_mk HN.out ?_
     refine tree_one rfl ?_; go_wp2_with fail
     refine (wideMul_any (fun _ => True) _ _ ((u : Int) / (v : Int)) (v : Int) (K - m) (m + 1) _ (HQ.out.mono (fun _ _ => trivial)) ((HV8.out.below HN.out).mono (fun _ _ => trivial)) HQD.out.2.2 (by have := HQD.out.2.1; omega) (by have := HQD.out.1; omega)).mono ?_
     rintro eM vc ⟨vm, rfl, hbx, hM⟩
     have HM := Lib.hid hM.here
     obtain ⟨am, nm, cm, lm, rfl, _⟩ := hM
     obtain ⟨sm, hsm⟩ : ∃ s, s = ((u : Int) / (v : Int) * (v : Int)).sign := ⟨_, rfl⟩
     rw [← hsm] at HM ⊢
     clear hsm
     have hx9 := (hbx.block X9 l9).trans hx9
     have l9 := Nat.lt_of_lt_of_le l9 hbx.size
     have hzx := hbx.size
     have HN := bwt HN hbx
     have hzy := HN.out.size
     clear hbx
     go_wp2_with fail
     refine tailL_mk HN.out ?_
     refine tree_one rfl ?_; go_wp2_with fail
     refine (wideSub_any (fun b => ((p b ∨ w.heap.size + 3 ≤ b) ∧ b < w7.heap.size) ∨ (vb.heap.size ≤ b ∧ b < vc.heap.size)) _ _ (u : Int) ((u : Int) / (v : Int) * (v : Int)) K _ ((HU8.out.below HN.out).mono (fun b hb => .inl hb)) (HM.out.mono (fun b hb => .inr (by have := hb; omega))) (fun b hb => by have := HN.out.size; omega) (by have := HG.out.2.1; omega) (by have h1 := HRB.out; have h2 := HG.out.2.1; omega) (by omega)).mono ?_
     rintro eS vd ⟨vr, rfl, hbx, hS⟩
     have HS := Lib.hid hS.here
     obtain ⟨ar, nr, cr, lr, rfl, _⟩ := hS
     obtain ⟨sr, hsr⟩ : ∃ s, s = ((u : Int) - (u : Int) / (v : Int) * (v : Int)).sign := ⟨_, rfl⟩
     rw [← hsr] at HS ⊢
     clear hsr
     have hx9 := (hbx.block X9 l9).trans hx9
     have l9 := Nat.lt_of_lt_of_le l9 hbx.size
     have hzx := hbx.size
     have HN := bwt HN hbx
     have hzy := HN.out.size
     clear hbx
     go_wp2_with fail
     refine tailL_mk HN.out ?_
     refine tree_one rfl ?_
     have c90 := cell_of_row _ _ 0 _ _ _ hx9
     have c91 := cell_of_row _ _ 1 _ _ _ hx9
     have f90 := frozen_of_row _ _ 0 _ _ hx9
     have f91 := frozen_of_row _ _ 1 _ _ hx9
     simp only [List.getElem?_toArray, List.getElem?_cons_zero, List.getElem?_cons_succ] at c90 c91
     have HRX := Lib.hid (show WideR (fun b => p b ∨ w.heap.size + 3 ≤ b) ((vd.setCell ⟨X9, 0, none⟩ (.int .i64 sr)).setCell ⟨X9, 1, none⟩ (.slice ar nr cr)) (.agg #[.int .i64 sr, .slice ar nr cr]) ((u : Int) - (u : Int) / (v : Int) * (v : Int)) from
      WideR.mono (p := fun b => (p b ∨ w.heap.size + 3 ≤ b) ∧ b ≠ X9) (WideR.kept (w := vd) (HS.out.mono (fun b hb => by
       obtain ⟨hX9, hsz9⟩ := HX9.out
       obtain ⟨h1, h2⟩ := hb
       rcases h1 with (h1 | h1) | h1
       ·exact ⟨h1.1, by omega⟩
       ·exact ⟨.inr (by omega), by omega⟩
       ·exact ⟨.inr (by omega), by omega⟩)) (by simp) (fun b hb => by rw [Go.Deep.blk_setCell_other _ _ _ _ (by simpa using hb.2), Go.Deep.blk_setCell_other _ _ _ _ (by simpa using hb.2)])) (fun b hb => hb.1))
     go_wp2_with fail
     have HNx := Lib.hid (show Below w7.heap.size w7 ((vd.setCell ⟨X9, 0, none⟩ (.int .i64 sr)).setCell ⟨X9, 1, none⟩ (.slice ar nr cr)) from Below.setCell (Below.setCell HN.out hNX _) hNX _)
     refine tailL_mk HNx.out ?_
     refine tree_done ?_
     go_wp2_with fail
     go_meet
     case rel => exact ⟨X9, sr, ar, nr, cr, rfl, by go_simp, by go_simp, by simpa using l9, hNX, HRX, HNx⟩
   case rest =>
    obtain ⟨wd, rfl⟩ : ∃ w', w' = wc := ⟨wc, rfl⟩
    obtain ⟨X9, sr, ar, nr, cr, rfl, x0, x1, lx, hNX, hR, hN⟩ := hcut
    have hbx := hN.out
    have hzx := hbx.size
    have u0b : wd.cell? ⟨w.heap.size, 0, none⟩ = some (.int .i64 (s)) := bwc hbx; have u1b : wd.cell? ⟨w.heap.size, 1, none⟩ = some (.slice a1 n1 c1) := bwc hbx; have v0b : wd.cell? ⟨w.heap.size + 1, 0, none⟩ = some (.int .i64 (t)) := bwc hbx; have v1b : wd.cell? ⟨w.heap.size + 1, 1, none⟩ = some (.slice a2 n2 c2) := bwc hbx; have z0b : wd.cell? ⟨w.heap.size + 1 + 1, 0, none⟩ = some (.int .i64 0) := bwc hbx; have z1b : wd.cell? ⟨w.heap.size + 1 + 1, 1, none⟩ = some (.slice none 0 0) := bwc hbx; have g0b : wd.frozen? ⟨w.heap.size, 0, none⟩ = false := bwf hbx; have g1b : wd.frozen? ⟨w.heap.size, 1, none⟩ = false := bwf hbx; have h0b : wd.frozen? ⟨w.heap.size + 1, 0, none⟩ = false := bwf hbx; have h1b : wd.frozen? ⟨w.heap.size + 1, 1, none⟩ = false := bwf hbx; have f0b : wd.frozen? ⟨w.heap.size + 1 + 1, 0, none⟩ = false := bwf hbx; have f1b : wd.frozen? ⟨w.heap.size + 1 + 1, 1, none⟩ = false := bwf hbx; have l0b : w.heap.size < wd.heap.size := by { omega }; have l1b : w.heap.size + 1 < wd.heap.size := by { omega }; have l2b : w.heap.size + 1 + 1 < wd.heap.size := by { omega }
    have HN := Lib.hid hN.out
    have HR := Lib.hid hR.out
    have HVD := Lib.hid (HV7.out.below hbx)
    have HBD := Lib.hid (HB7.out.trans (hbx.mono (by omega)))
    clear hbx hN hR u0a u1a v0a v1a z0a z1a g0a g1a h0a h1a f0a f1a l0a l1a l2a HU7 HV7 HU8 HV8 HB7
    go_wp2_with fail
    have ok1 : OkB (w.heap.size + 1) wd.heap.size w.heap.size := ⟨by omega, by omega⟩
    have ok2 : OkB X9 wd.heap.size w.heap.size := ⟨by omega, by omega⟩
    refine wp_region_laterXY (B := wd.heap.size) (b0 :=  w.heap.size) [0, 1] [2] [3] (by kernel_rfl) (by kernel_rfl) ?_; simp only [List.filterMap_cons, List.filterMap_nil, List.getElem?_cons_zero, List.getElem?_cons_succ]; repeat (show wpQuiet _ _ _ _ (_ :: _) _; go_big_quiet_step (fail))
    refine wpQuiet_nil ?_
    refine tailY_cons ?_
    go_wp2_with fail
    refine tailX_mk (.set (.set (.drew (fun _ _ _ _ => rfl)) _) _) ?_
    refine tailY_ends ?_
    refine ends_cons ?_
    go_wp2_with fail
    refine tailZ_end ?_
    refine ends_nil ?_
    go_wp2_with fail
    have HZQ := Lib.hid (show ((u - u / v * v : Nat) : Int) = (u : Int) - (u : Int) / (v : Int) * (v : Int) by
     have h1 := Nat.div_mul_le_self u v
     rw [Int.ofNat_sub h1, Int.natCast_mul, Int.natCast_ediv])
    have HGN := Lib.hid (show Nat.gcd v (u - u / v * v) = Int.gcd x y by
     have h1 : u - u / v * v = u % v := by have := Nat.div_add_mod u v; rw [Nat.mul_comm] at this; omega
     rw [h1, ← HG.out.1, Nat.gcd_comm u v, Nat.gcd_rec v u, Nat.gcd_comm])
    generalize hW : World.drew _ = we
    have u0 : we.cell? ⟨w.heap.size, 0, none⟩ = some (.int .i64 t) := by { rw [← hW]; clear hW; go_simp }
    have u1 : we.cell? ⟨w.heap.size, 1, none⟩ = some (.slice a2 n2 c2) := by { rw [← hW]; clear hW; go_simp }
    have v0 : we.cell? ⟨w.heap.size + 1, 0, none⟩ = some (.int .i64 sr) := by { rw [← hW]; clear hW; go_simp }
    have v1 : we.cell? ⟨w.heap.size + 1, 1, none⟩ = some (.slice ar nr cr) := by { rw [← hW]; clear hW; go_simp }
    have z0 : we.cell? ⟨w.heap.size + 1 + 1, 0, none⟩ = some (.int .i64 0) := by { rw [← hW]; clear hW; go_simp }
    have z1 : we.cell? ⟨w.heap.size + 1 + 1, 1, none⟩ = some (.slice none 0 0) := by { rw [← hW]; clear hW; go_simp }
    have g0 : we.frozen? ⟨w.heap.size, 0, none⟩ = false := by { rw [← hW]; clear hW; go_simp }
    have g1 : we.frozen? ⟨w.heap.size, 1, none⟩ = false := by { rw [← hW]; clear hW; go_simp }
    have h0 : we.frozen? ⟨w.heap.size + 1, 0, none⟩ = false := by { rw [← hW]; clear hW; go_simp }
    have h1 : we.frozen? ⟨w.heap.size + 1, 1, none⟩ = false := by { rw [← hW]; clear hW; go_simp }
    have f0 : we.frozen? ⟨w.heap.size + 1 + 1, 0, none⟩ = false := by { rw [← hW]; clear hW; go_simp }
    have f1 : we.frozen? ⟨w.heap.size + 1 + 1, 1, none⟩ = false := by { rw [← hW]; clear hW; go_simp }
    have hze : we.heap.size = wd.heap.size := by rw [← hW]; simp
    have hst : ∀ b, (p b ∨ w.heap.size + 3 ≤ b) → we.heap[b]? = wd.heap[b]? := fun b hb => by
     have hne : b ≠ w.heap.size ∧ b ≠ w.heap.size + 1 := by
      rcases hb with hb | hb
      ·have := HP.out b hb; omega
      ·omega
     rw [← hW]
     change (World.setCell _ _ _).heap[b]? = wd.heap[b]?
     rw [Go.Deep.blk_setCell_other _ _ _ _ (by simpa using hne.2), Go.Deep.blk_setCell_other _ _ _ _ (by simpa using hne.2), Go.Deep.blk_setCell_other _ _ _ _ (by simpa using hne.1), Go.Deep.blk_setCell_other _ _ _ _ (by simpa using hne.1)]
    have HUE := Lib.hid (HVD.out.kept (by omega) hst)
    have HVE := Lib.hid (HR.out.kept (by omega) hst)
    rw [← HZQ.out] at HVE
    have hbe : Below w.heap.size w we := by
     rw [← hW]
     exact ((((HBD.out.setCell (by simp) _).setCell (by simp) _).setCell (by simp) _).setCell (by simp) _).drew
    have HBE := Lib.hid hbe
    clear hW hst hbe
    go_roundw
    case rel =>
     exact ⟨t, sr, a2, ar, n2, c2, nr, cr, v, u - u / v * v, u0, u1, v0, v1, z0, z1, g0, g1, h0, h1, f0, f1, HUE, HVE, Lib.hid ⟨HGN.out, HG.out.2.2, by rw [HZQ.out]; have := HRB.out; have := HG.out.2.2; omega⟩, HBE, by omega⟩
    case measure =>
     have e1 := HWT.out
     have e2 := wat_eq v1 HVE.out
     have e3 := HZQ.out
     have e4 := HRB.out
     rw [e1, e2]
     omega
end Go.Proofs.YtdjinmieogpgcaaGreat
