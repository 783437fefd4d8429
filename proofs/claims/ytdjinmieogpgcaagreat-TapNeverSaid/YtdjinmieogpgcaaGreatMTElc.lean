import Derived.Test.YtdjinmieogpgcaaGreatTFai
/- A machine, limits, a state and a load that are checked; the exported functions of currents. -/
namespace Go.Proofs.YtdjinmieogpgcaaGreat
open Go.RowKit Go.Shelf
set_option linter.unusedVariables false
set_option linter.unusedSimpArgs false
def eleZ (m : Mac) (l : Lim) (s load : Int) : Int := firstErr [firstErr [(macE m).2, limE l], staE m.br.length s, loaE load]
def eleE (m : Mac) (l : Lim) (s load : Int) : Int := if eleZ m l s load ≠ 0 then eleZ m l s load else curE m s.toNat
theorem blk_put9 {w : World} {X t : Nat} {x0 x1 x2 x3 x4 x5 x6 x7 x8 : Value} (h : w.heap[X]? = some (.cells #[x0, x1, x2, x3, x4, x5, x6, x7, x8] t)) (v0 v1 v2 v3 v4 v5 v6 v7 v8 : Value) :
    (((((((((w.setCell ⟨X, 0, none⟩ v0).setCell ⟨X, 1, none⟩ v1).setCell ⟨X, 2, none⟩ v2).setCell ⟨X, 3, none⟩ v3).setCell ⟨X, 4, none⟩ v4).setCell ⟨X, 5, none⟩ v5).setCell ⟨X, 6, none⟩ v6).setCell ⟨X, 7, none⟩ v7).setCell ⟨X, 8, none⟩ v8).heap[X]? = some (.cells #[v0, v1, v2, v3, v4, v5, v6, v7, v8] t) := by
 have h0 : (w.setCell ⟨X, 0, none⟩ v0).heap[X]? = some (.cells #[v0, x1, x2, x3, x4, x5, x6, x7, x8] t) := by rw [blk_set h 0 v0]; rfl
 have h1 : ((w.setCell ⟨X, 0, none⟩ v0).setCell ⟨X, 1, none⟩ v1).heap[X]? = some (.cells #[v0, v1, x2, x3, x4, x5, x6, x7, x8] t) := by rw [blk_set h0 1 v1]; rfl
 have h2 : (((w.setCell ⟨X, 0, none⟩ v0).setCell ⟨X, 1, none⟩ v1).setCell ⟨X, 2, none⟩ v2).heap[X]? = some (.cells #[v0, v1, v2, x3, x4, x5, x6, x7, x8] t) := by rw [blk_set h1 2 v2]; rfl
 have h3 : ((((w.setCell ⟨X, 0, none⟩ v0).setCell ⟨X, 1, none⟩ v1).setCell ⟨X, 2, none⟩ v2).setCell ⟨X, 3, none⟩ v3).heap[X]? = some (.cells #[v0, v1, v2, v3, x4, x5, x6, x7, x8] t) := by rw [blk_set h2 3 v3]; rfl
 have h4 : (((((w.setCell ⟨X, 0, none⟩ v0).setCell ⟨X, 1, none⟩ v1).setCell ⟨X, 2, none⟩ v2).setCell ⟨X, 3, none⟩ v3).setCell ⟨X, 4, none⟩ v4).heap[X]? = some (.cells #[v0, v1, v2, v3, v4, x5, x6, x7, x8] t) := by rw [blk_set h3 4 v4]; rfl
 have h5 : ((((((w.setCell ⟨X, 0, none⟩ v0).setCell ⟨X, 1, none⟩ v1).setCell ⟨X, 2, none⟩ v2).setCell ⟨X, 3, none⟩ v3).setCell ⟨X, 4, none⟩ v4).setCell ⟨X, 5, none⟩ v5).heap[X]? = some (.cells #[v0, v1, v2, v3, v4, v5, x6, x7, x8] t) := by rw [blk_set h4 5 v5]; rfl
 have h6 : (((((((w.setCell ⟨X, 0, none⟩ v0).setCell ⟨X, 1, none⟩ v1).setCell ⟨X, 2, none⟩ v2).setCell ⟨X, 3, none⟩ v3).setCell ⟨X, 4, none⟩ v4).setCell ⟨X, 5, none⟩ v5).setCell ⟨X, 6, none⟩ v6).heap[X]? = some (.cells #[v0, v1, v2, v3, v4, v5, v6, x7, x8] t) := by rw [blk_set h5 6 v6]; rfl
 have h7 : ((((((((w.setCell ⟨X, 0, none⟩ v0).setCell ⟨X, 1, none⟩ v1).setCell ⟨X, 2, none⟩ v2).setCell ⟨X, 3, none⟩ v3).setCell ⟨X, 4, none⟩ v4).setCell ⟨X, 5, none⟩ v5).setCell ⟨X, 6, none⟩ v6).setCell ⟨X, 7, none⟩ v7).heap[X]? = some (.cells #[v0, v1, v2, v3, v4, v5, v6, v7, x8] t) := by rw [blk_set h6 7 v7]; rfl
 have h8 : (((((((((w.setCell ⟨X, 0, none⟩ v0).setCell ⟨X, 1, none⟩ v1).setCell ⟨X, 2, none⟩ v2).setCell ⟨X, 3, none⟩ v3).setCell ⟨X, 4, none⟩ v4).setCell ⟨X, 5, none⟩ v5).setCell ⟨X, 6, none⟩ v6).setCell ⟨X, 7, none⟩ v7).setCell ⟨X, 8, none⟩ v8).heap[X]? = some (.cells #[v0, v1, v2, v3, v4, v5, v6, v7, v8] t) := by rw [blk_set h7 8 v8]; rfl
 exact h8
theorem below_put9 {w0 w : World} {B X : Nat} (h : Below B w0 w) (hX : B ≤ X) (v0 v1 v2 v3 v4 v5 v6 v7 v8 : Value) :
    Below B w0 (((((((((w.setCell ⟨X, 0, none⟩ v0).setCell ⟨X, 1, none⟩ v1).setCell ⟨X, 2, none⟩ v2).setCell ⟨X, 3, none⟩ v3).setCell ⟨X, 4, none⟩ v4).setCell ⟨X, 5, none⟩ v5).setCell ⟨X, 6, none⟩ v6).setCell ⟨X, 7, none⟩ v7).setCell ⟨X, 8, none⟩ v8) :=
 ((((((((h.setCell hX _).setCell hX _).setCell hX _).setCell hX _).setCell hX _).setCell hX _).setCell hX _).setCell hX _).setCell hX _
theorem eleZ_zero {m : Mac} {l : Lim} {s load : Int} (h : eleZ m l s load = 0) : MacV m ∧ limE l = 0 ∧ (∃ n : Nat, s = (n : Int) ∧ n < 2 ^ m.br.length) ∧ -1000 ≤ load ∧ load ≤ 1000 := by
 unfold eleZ at h
 rw [firstErr_cons, firstErr_cons, firstErr_cons, firstErr_cons, firstErr_cons, staE_zero, loaE_zero] at h
 obtain ⟨⟨h1, h2, _⟩, h3, h4, _⟩ := h
 have hm := (macE_zero h1).2
 refine ⟨hm, h2, ⟨s.toNat, by omega, ?_⟩, h4⟩
 have : ((2 ^ m.br.length : Nat) : Int) = (2 : Int) ^ m.br.length := by push_cast; rfl
 omega
theorem ElV.of {m : Mac} {l : Lim} {n : Nat} {load : Int} (h : eleZ m l (n : Int) load = 0) (h0 : curE m n = 0) : ElV m l n load := by
 obtain ⟨hm, hl, ⟨k, hk, hk2⟩, hd⟩ := eleZ_zero h
 obtain rfl : n = k := by omega
 refine ⟨hm, (limE_zero.1 hl).1, hd, hk2, ?_⟩
 rintro rfl
 rw [curE_cases, if_pos rfl] at h0
 exact absurd h0 (by decide)
set_option maxHeartbeats 2000000 in
set_option maxRecDepth 100000 in
theorem electric_any (m : Mac) (l : Lim) (s load : Int) (ab ag : Option Addr) (nb cb ng cg : Nat) (w : World) (hb : BrR w ab nb m.br) (hg : GrR w ag ng m.gs) (h8 : nb ≤ 8) :
    Calls Tryz.prog 67 #[.agg #[.slice ab nb cb, .int .i64 m.st, .slice ag ng cg], .agg #[.int .i64 l.volt, .int .i64 l.lo, .int .i64 l.hi, .int .i64 l.circ, .int .i64 l.brk, .int .i64 l.ret], .int .i64 s, .int .i64 load] w
     fun e' w' => e' = .returned (.tuple #[.agg #[.slice ab nb cb, .int .i64 m.st, .slice ag ng cg, .int .i64 l.volt, .int .i64 l.lo, .int .i64 l.hi, .int .i64 l.circ, .int .i64 l.brk, .int .i64 l.ret], .int .i64 (eleE m l s load)]) ∧ Below w.heap.size w w' := by
 have HO := Lib.hid (fun (W : World) (hbw : Below w.heap.size w W) => open_any m l ab ag nb cb ng cg W (hb.below hbw) (hg.below hbw))
 have HST := Lib.hid (fun (W : World) => m_staE_any m.st nb cb ng cg ab ag s W h8)
 have HLO := Lib.hid (fun (W : World) => loadE_any load W)
 have HZ := Lib.hid (fun (h : eleZ m l s load = 0) => eleZ_zero h)
 have HCE := Lib.hid (fun (hm : MacV m) (n : Nat) (hn : n < 2 ^ nb) (W : World) (hbw : Below w.heap.size w W) => currentsErr_any m l n ab ag nb cb ng cg W hm (hb.below hbw) hn)
 have hE : eleZ m l s load = firstErr [firstErr [(macE m).2, limE l], staE nb s, loaE load] := by unfold eleZ; rw [hb.len]
 have hV : eleE m l s load = if eleZ m l s load ≠ 0 then eleZ m l s load else curE m s.toNat := rfl
 have HLB := Lib.hid hb.len
 obtain ⟨V, hVV⟩ : ∃ V, V = eleE m l s load := ⟨_, rfl⟩
 rw [← hVV] at hV ⊢
 generalize eleZ m l s load = E at *
 generalize firstErr [(macE m).2, limE l] = E1 at *
 generalize staE nb s = E2 at *
 generalize loaE load = E3 at *
 obtain ⟨vo, lo, hi, ci, br, re⟩ := l
 obtain ⟨st, hst⟩ : ∃ x, x = m.st := ⟨_, rfl⟩
 rw [← hst] at HO HST HCE ⊢
 simp only at HO HCE ⊢
 have HE := Lib.hid hE
 have HV := Lib.hid hV
 clear hb hg hst hE hV hVV h8
 go_enter Tryz.func67, Tryz.ntmps67
 go_wp2_with fail
 refine (HO.out _ (by (first|exact bwg|go_size))).mono ?_
 rintro e5 w5 ⟨rfl, hb5⟩
 have k8 : BlkR w5 (w.heap.size + 1 + 1) (.cells #[.slice none 0 0, .int .i64 0, .slice none 0 0, .int .i64 0, .int .i64 0, .int .i64 0, .int .i64 0, .int .i64 0, .int .i64 0] 100) := by
  show w5.heap[w.heap.size + 1 + 1]? = _
  rw [hb5.block _ (by simp)]
  have := heap_alloc_new ((w.alloc (Obj.cells #[.slice ab nb cb, .int .i64 st, .slice ag ng cg] 45)).alloc (Obj.cells #[.int .i64 vo, .int .i64 lo, .int .i64 hi, .int .i64 ci, .int .i64 br, .int .i64 re] 47)) (Obj.cells #[.slice none 0 0, .int .i64 0, .slice none 0 0, .int .i64 0, .int .i64 0, .int .i64 0, .int .i64 0, .int .i64 0, .int .i64 0] 100)
  simpa using this
 have HB5 := Lib.hid (show Below w.heap.size w w5 by (first|exact bwg|go_size))
 obtain ⟨X8, hX8⟩ : ∃ X, X = w.heap.size + 1 + 1 := ⟨_, rfl⟩
 rw [← hX8] at k8 ⊢
 have hx8 : w.heap.size ≤ X8 := by omega
 clear hb5 HO hX8
 go_wp2_with fail
 obtain ⟨w6, hW⟩ : ∃ w6, w6 = w5.alloc (Obj.cells #[.slice ab nb cb, .int .i64 st, .slice ag ng cg, .int .i64 vo, .int .i64 lo, .int .i64 hi, .int .i64 ci, .int .i64 br, .int .i64 re] 100) := ⟨_, rfl⟩
 rw [← hW]
 obtain ⟨X6, hX6⟩ : ∃ X, X = w5.heap.size := ⟨_, rfl⟩
 rw [← hX6]
 have hb6 : Below w5.heap.size w5 w6 := by rw [hW]; (first|exact bwg|go_size)
 have k6 : BlkR w6 X6 (.cells #[.slice ab nb cb, .int .i64 st, .slice ag ng cg, .int .i64 vo, .int .i64 lo, .int .i64 hi, .int .i64 ci, .int .i64 br, .int .i64 re] 100) := by show w6.heap[X6]? = _; rw [hW, hX6]; exact heap_alloc_new _ _
 have n86 : X8 ≠ X6 := by have := k8.lt; omega
 refine (HST.out _).mono ?_
 rintro e7 w7 ⟨rfl, hb7⟩
 have HB := Lib.hid (HB5.out.trans ((hb6.trans (hb7.mono hb6.size)).mono HB5.out.size))
 have K8 := Lib.hid ((k8.below hb6).below hb7)
 have K6 := Lib.hid (k6.below hb7)
 clear hW hX6 hb6 hb7 k6 k8 HB5 HST
 go_wp2_with fail
 refine (HLO.out _).mono ?_
 rintro e7 w7 ⟨rfl, rfl⟩
 go_wp2_with fail
 refine (t_first3 _ _ _ _ _ _ _ (by rfl) (by simp)).mono ?_
 rintro e8 w8 ⟨rfl, hw8⟩
 have hb8 : Below w7.heap.size w7 w8 := by rw [← hw8]; (first|exact bwg|go_size)
 have HB := bwt HB hb8
 have K8 := Lib.hid (K8.out.below hb8)
 have K6 := Lib.hid (K6.out.below hb8)
 clear hb8 hw8 HLO
 rw [← HE.out]
 obtain ⟨c6, c6_1, c6_2, c6_3, c6_4, c6_5, c6_6, c6_7, c6_8, l6⟩ := blkc9 K6.out
 by_cases h0 : E = 0
 ·subst h0
  obtain ⟨hm, _, ⟨n, rfl, hn⟩, _⟩ := HZ.out (by first | rfl | trivial)
  have HVN := Lib.hid (show V = curE m n by rw [HV.out, if_neg (by simp), Int.toNat_natCast])
  rw [HLB.out] at hn
  have HCN := Lib.hid (fun (W : World) (hbw : Below w8.heap.size w8 W) => HCE.out hm n hn W (HB.out.trans (hbw.mono HB.out.size)))
  generalize curE m n = CE at *
  clear hm hn HCE HV HZ
  go_wp2_with fail
  refine later_of_eq 4 (by kernel_rfl) (by kernel_rfl) ?_; simp only [List.take_succ_cons, List.take_zero, List.drop_succ_cons, List.drop_zero]; repeat go_big_quiet_step(with_reducible exact calls_later (HCN.out _ (Later.below _)))
  refine wpQuiet_nil ?_; intro w9 hb9
  have HB := bwt HB hb9
  have K8 := Lib.hid (K8.out.below hb9)
  clear hb9 c6 c6_1 c6_2 c6_3 c6_4 c6_5 c6_6 c6_7 c6_8 l6 K6
  have HKK := Lib.hid (show w9.heap[X8]? = _ from K8.out)
  obtain ⟨d8, d8_1, d8_2, d8_3, d8_4, d8_5, d8_6, d8_7, d8_8, _⟩ := blkc9 HKK.out
  have fz0 := blk_fz HKK.out 0
  have fz1 := blk_fz HKK.out 1
  have fz2 := blk_fz HKK.out 2
  have fz3 := blk_fz HKK.out 3
  have fz4 := blk_fz HKK.out 4
  have fz5 := blk_fz HKK.out 5
  have fz6 := blk_fz HKK.out 6
  have fz7 := blk_fz HKK.out 7
  have fz8 := blk_fz HKK.out 8
  have l8 := K8.out.lt
  go_wp2
  refine bodyPost_ret (v := .tuple #[.agg #[.slice ab nb cb, .int .i64 st, .slice ag ng cg, .int .i64 vo, .int .i64 lo, .int .i64 hi, .int .i64 ci, .int .i64 br, .int .i64 re], .int .i64 CE]) ?_ rfl ⟨by rw [HVN.out], below_put9 HB.out hx8 _ _ _ _ _ _ _ _ _⟩
  have kw := blk_put9 HKK.out (.slice ab nb cb) (.int .i64 st) (.slice ag ng cg) (.int .i64 vo) (.int .i64 lo) (.int .i64 hi) (.int .i64 ci) (.int .i64 br) (.int .i64 re)
  generalize World.setCell (World.setCell (World.setCell (World.setCell (World.setCell (World.setCell (World.setCell (World.setCell (World.setCell _ _ _) _ _) _ _) _ _) _ _) _ _) _ _) _ _) _ _ = wz at *
  obtain ⟨e8, e8_1, e8_2, e8_3, e8_4, e8_5, e8_6, e8_7, e8_8, _⟩ := blkc9 kw
  simp [results, Tryz.results67, go_sem, e8, e8_1, e8_2, e8_3, e8_4, e8_5, e8_6, e8_7, e8_8]
 ·have HVN := Lib.hid (show V = E by rw [HV.out, if_pos h0])
  have e1 := bne_iff_ne.2 h0
  clear h0 HCE HV HZ
  have HKK := Lib.hid (show w8.heap[X8]? = _ from K8.out)
  obtain ⟨d8, d8_1, d8_2, d8_3, d8_4, d8_5, d8_6, d8_7, d8_8, _⟩ := blkc9 HKK.out
  have fz0 := blk_fz HKK.out 0
  have fz1 := blk_fz HKK.out 1
  have fz2 := blk_fz HKK.out 2
  have fz3 := blk_fz HKK.out 3
  have fz4 := blk_fz HKK.out 4
  have fz5 := blk_fz HKK.out 5
  have fz6 := blk_fz HKK.out 6
  have fz7 := blk_fz HKK.out 7
  have fz8 := blk_fz HKK.out 8
  have l8 := K8.out.lt
  go_wp2
  refine bodyPost_ret (v := .tuple #[.agg #[.slice ab nb cb, .int .i64 st, .slice ag ng cg, .int .i64 vo, .int .i64 lo, .int .i64 hi, .int .i64 ci, .int .i64 br, .int .i64 re], .int .i64 E]) ?_ rfl ⟨by rw [HVN.out], below_put9 HB.out hx8 _ _ _ _ _ _ _ _ _⟩
  have kw := blk_put9 HKK.out (.slice ab nb cb) (.int .i64 st) (.slice ag ng cg) (.int .i64 vo) (.int .i64 lo) (.int .i64 hi) (.int .i64 ci) (.int .i64 br) (.int .i64 re)
  generalize World.setCell (World.setCell (World.setCell (World.setCell (World.setCell (World.setCell (World.setCell (World.setCell (World.setCell _ _ _) _ _) _ _) _ _) _ _) _ _) _ _) _ _) _ _ = wz at *
  obtain ⟨e8, e8_1, e8_2, e8_3, e8_4, e8_5, e8_6, e8_7, e8_8, _⟩ := blkc9 kw
  simp [results, Tryz.results67, go_sem, e8, e8_1, e8_2, e8_3, e8_4, e8_5, e8_6, e8_7, e8_8]
/- The exported functions of currents, failures and invariants: the program. -/
set_option maxHeartbeats 1000000 in
set_option maxRecDepth 100000 in
theorem currentsIn_any (m : Mac) (l : Lim) (s load : Int) (ab ag : Option Addr) (nb cb ng cg : Nat) (w : World) (hb : BrR w ab nb m.br) (hg : GrR w ag ng m.gs) (h8 : nb ≤ 8) :
    Calls Tryz.prog 31 #[.agg #[.slice ab nb cb, .int .i64 m.st, .slice ag ng cg], .agg #[.int .i64 l.volt, .int .i64 l.lo, .int .i64 l.hi, .int .i64 l.circ, .int .i64 l.brk, .int .i64 l.ret], .int .i64 s, .int .i64 load] w
     fun e' w' => ∃ a' n' c', e' = .returned (.tuple #[.slice a' n' c', .int .i64 (eleE m l s load)]) ∧ Below w.heap.size w w' ∧ PairsR w' a' n' (if eleE m l s load = 0 then curT m l s.toNat load else []) := by
 have HE := Lib.hid (fun (W : World) (hbw : Below w.heap.size w W) => electric_any m l s load ab ag nb cb ng cg W (hb.below hbw) (hg.below hbw) h8)
 have HCU := Lib.hid (fun (h : eleE m l s load = 0) => show ∃ n : Nat, s = (n : Int) ∧ ∀ (W : World), Below w.heap.size w W → Calls Tryz.prog 68 #[.agg #[.slice ab nb cb, .int .i64 m.st, .slice ag ng cg, .int .i64 l.volt, .int .i64 l.lo, .int .i64 l.hi, .int .i64 l.circ, .int .i64 l.brk, .int .i64 l.ret], .int .i64 (n : Int), .int .i64 load] W (fun e' w' => ∃ g, e' = .returned (.slice (some ⟨g, 0, none⟩) nb nb) ∧ W.heap.size ≤ g ∧ w'.heap[g]? = some (.cells (pcells (curT m l n load)).toArray 85) ∧ Below W.heap.size W w') from by
  unfold eleE at h
  split at h
  ·rename_i h1; exact absurd h h1
  ·rename_i h1
   have h1 := Decidable.not_not.1 h1
   obtain ⟨hm, hl, ⟨n, rfl, hn⟩, hd⟩ := eleZ_zero h1
   rw [Int.toNat_natCast] at h
   have hv := ElV.of h1 h
   exact ⟨n, rfl, fun W hbw => currents_any m l n load ab ag nb cb ng cg W hm (hb.below hbw) hv.hl hv.hd (by rw [← hb.len]; exact hn) hv.h0⟩)
 have HLN := Lib.hid (fun (n : Nat) => show (curT m l n load).length = nb by rw [curT_len, hb.len])
 obtain ⟨L, hL⟩ : ∃ L, L = if eleE m l s load = 0 then curT m l s.toNat load else [] := ⟨_, rfl⟩
 have HL := Lib.hid hL
 rw [← hL]
 clear hL
 generalize eleE m l s load = E at *
 have hcu : ∀ n, curT m l n load = curT m l n load := fun _ => rfl
 generalize hCT : (fun n => curT m l n load) = CT at *
 have HCT := Lib.hid (fun n => (congrFun hCT n : curT m l n load = CT n))
 obtain ⟨vo, lo, hi, ci, br, re⟩ := l
 obtain ⟨st, hst⟩ : ∃ x, x = m.st := ⟨_, rfl⟩
 rw [← hst] at HE HCU ⊢
 simp only at HE HCU ⊢
 clear hb hg hst hcu hCT
 go_enter Tryz.func31, Tryz.ntmps31
 go_wp2_with fail
 refine (HE.out _ (by (first|exact bwg|go_size))).mono ?_
 rintro e5 w5 ⟨rfl, hb5⟩
 have HB5 := Lib.hid (show Below w.heap.size w w5 by (first|exact bwg|go_size))
 clear hb5 HE
 by_cases h0 : E = 0
 ·subst h0
  obtain ⟨n, rfl, hcw⟩ := HCU.out rfl
  obtain ⟨w6, hW⟩ : ∃ w6, w6 = w5.alloc (Obj.cells #[.slice ab nb cb, .int .i64 st, .slice ag ng cg, .int .i64 vo, .int .i64 lo, .int .i64 hi, .int .i64 ci, .int .i64 br, .int .i64 re] 100) := ⟨_, rfl⟩
  have hb6 : Below w5.heap.size w5 w6 := by rw [hW]; (first|exact bwg|go_size)
  have k6 : BlkR w6 w5.heap.size (.cells #[.slice ab nb cb, .int .i64 st, .slice ag ng cg, .int .i64 vo, .int .i64 lo, .int .i64 hi, .int .i64 ci, .int .i64 br, .int .i64 re] 100) := by show w6.heap[w5.heap.size]? = _; rw [hW]; exact heap_alloc_new _ _
  have HB6 := bwt HB5 hb6
  obtain ⟨X6, hX6⟩ : ∃ X, X = w5.heap.size := ⟨_, rfl⟩
  rw [← hX6] at k6
  have K6 := Lib.hid k6
  obtain ⟨c6, c6_1, c6_2, c6_3, c6_4, c6_5, c6_6, c6_7, c6_8, l6⟩ := blkc9 K6.out
  clear hb6 k6
  have HCW := Lib.hid (hcw w6 HB6.out)
  have HLX := Lib.hid (HL.out.trans (by rw [if_pos rfl, Int.toNat_natCast]))
  clear hcw HCU HL
  go_wp2_with fail
  rw [← hW]
  simp only [← hX6]
  clear hW hX6
  refine HCW.out.mono ?_
  rintro e7 w7 ⟨g, rfl, hg, hgr, hb7⟩
  have HK := Lib.hid (And.intro hgr hb7)
  clear hg hgr hb7
  go_wp2
  go_ret2
  refine ⟨some ⟨g, 0, none⟩, nb, nb, rfl, HB6.out.trans (HK.out.2.mono HB6.out.size), ?_⟩
  rw [HLX.out]
  have hln := HLN.out n
  refine ⟨by rw [pcells_length, hln], by unfold maxLen; omega, fun _ => ⟨g, 0, rfl, (Array.getElem?_eq_some_iff.1 HK.out.1).1, fun i u hu => ?_⟩⟩
  rw [Nat.zero_add, cell_of_row _ _ _ _ _ _ HK.out.1, List.getElem?_toArray]
  exact hu
 ·have e1 := bne_iff_ne.2 h0
  have HLX := Lib.hid (HL.out.trans (if_neg h0))
  clear h0 HCU HL
  go_wp2
  go_ret2
  exact ⟨none, 0, 0, rfl, HB5.out.alloc HB5.out.size _, by rw [HLX.out]; exact PairsR.nil _ _⟩
def opnE (m : Mac) (l : Lim) : Int := firstErr [(macE m).2, limE l]
theorem opnE_zero {m : Mac} {l : Lim} (h : opnE m l = 0) : MacV m ∧ limE l = 0 := by
 unfold opnE at h
 rw [firstErr_cons, firstErr_cons] at h
 exact ⟨(macE_zero h.1).2, h.2.1⟩
def failE (m : Mac) (l : Lim) : Int := if opnE m l ≠ 0 then opnE m l else unl (faiV m l).isSome 12
def failL (m : Mac) (l : Lim) : List Nat := if opnE m l ≠ 0 then [] else (faiV m l).getD []
def invE (m : Mac) (l : Lim) : Int := if opnE m l ≠ 0 then opnE m l else unl (!(faiV m l).isSome) 12
def invL (m : Mac) (l : Lim) : List Nat := if invE m l ≠ 0 then [] else reaS m
set_option maxHeartbeats 1000000 in
set_option maxRecDepth 100000 in
theorem failureOf_any (m : Mac) (l : Lim) (ab ag : Option Addr) (nb cb ng cg : Nat) (w : World) (hb : BrR w ab nb m.br) (hg : GrR w ag ng m.gs) :
    Calls Tryz.prog 14 #[.agg #[.slice ab nb cb, .int .i64 m.st, .slice ag ng cg], .agg #[.int .i64 l.volt, .int .i64 l.lo, .int .i64 l.hi, .int .i64 l.circ, .int .i64 l.brk, .int .i64 l.ret]] w
     fun e' w' => ∃ a' n' c', e' = .returned (.tuple #[.slice a' n' c', .int .i64 (failE m l)]) ∧ Below w.heap.size w w' ∧ IntsR w' a' n' (nats (failL m l)) ∧ n' ≤ c' := by
 have HO := Lib.hid (fun (W : World) (hbw : Below w.heap.size w W) => open_any m l ab ag nb cb ng cg W (hb.below hbw) (hg.below hbw))
 have HFA := Lib.hid (fun (h : opnE m l = 0) (W : World) (hbw : Below w.heap.size w W) => failure_any m l ab ag nb cb ng cg W (opnE_zero h).1 (opnE_zero h).2 (hb.below hbw) (hg.below hbw))
 have hE1 : failE m l = if opnE m l ≠ 0 then opnE m l else unl (faiV m l).isSome 12 := rfl
 have hE2 : failL m l = if opnE m l ≠ 0 then [] else (faiV m l).getD [] := rfl
 rw [show firstErr [(macE m).2, limE l] = opnE m l from rfl] at HO
 generalize failE m l = V1 at *
 generalize failL m l = V2 at *
 generalize opnE m l = E at *
 generalize faiV m l = FV at *
 have HE1 := Lib.hid hE1
 have HE2 := Lib.hid hE2
 obtain ⟨vo, lo, hi, ci, br, re⟩ := l
 obtain ⟨st, hst⟩ : ∃ x, x = m.st := ⟨_, rfl⟩
 rw [← hst] at HO HFA ⊢
 simp only at HO HFA ⊢
 clear hb hg hst hE1 hE2
 go_enter Tryz.func14, Tryz.ntmps14
 go_wp2_with fail
 refine (HO.out _ (by (first|exact bwg|go_size))).mono ?_
 rintro e5 w5 ⟨rfl, hb5⟩
 have HB5 := Lib.hid (show Below w.heap.size w w5 by (first|exact bwg|go_size))
 clear hb5 HO
 by_cases h0 : E = 0
 ·subst h0
  obtain ⟨w6, hW⟩ : ∃ w6, w6 = w5.alloc (Obj.cells #[.slice ab nb cb, .int .i64 st, .slice ag ng cg, .int .i64 vo, .int .i64 lo, .int .i64 hi, .int .i64 ci, .int .i64 br, .int .i64 re] 100) := ⟨_, rfl⟩
  have hb6 : Below w5.heap.size w5 w6 := by rw [hW]; (first|exact bwg|go_size)
  have k6 : BlkR w6 w5.heap.size (.cells #[.slice ab nb cb, .int .i64 st, .slice ag ng cg, .int .i64 vo, .int .i64 lo, .int .i64 hi, .int .i64 ci, .int .i64 br, .int .i64 re] 100) := by show w6.heap[w5.heap.size]? = _; rw [hW]; exact heap_alloc_new _ _
  have HB6 := bwt HB5 hb6
  obtain ⟨X6, hX6⟩ : ∃ X, X = w5.heap.size := ⟨_, rfl⟩
  rw [← hX6] at k6
  have K6 := Lib.hid k6
  obtain ⟨c6, c6_1, c6_2, c6_3, c6_4, c6_5, c6_6, c6_7, c6_8, l6⟩ := blkc9 K6.out
  clear hb6 k6
  have HCW := Lib.hid (HFA.out rfl w6 HB6.out)
  have HV1 := Lib.hid (HE1.out.trans (if_neg (by simp)))
  have HV2 := Lib.hid (HE2.out.trans (if_neg (by simp)))
  clear HFA HE1 HE2
  go_wp2_with fail
  rw [← hW]
  simp only [← hX6]
  clear hW hX6
  refine HCW.out.mono ?_
  rintro e7 w7 ⟨a', n', c', rfl, hb7, hr, hcp⟩
  have HK := Lib.hid (And.intro hb7 (And.intro hr hcp))
  clear hb7 hr hcp
  go_wp2_with fail
  refine (t_unless_any _ _ _).mono ?_
  rintro e8 w8 ⟨rfl, rfl⟩
  go_wp2
  go_ret2
  exact ⟨a', n', c', by first | (rw [HV1.out]; done) | (rw [HV1.out]; rfl), HB6.out.trans (HK.out.1.mono HB6.out.size), by rw [HV2.out]; exact HK.out.2.1, HK.out.2.2⟩
 ·have e1 := bne_iff_ne.2 h0
  have HV1 := Lib.hid (HE1.out.trans (if_pos h0))
  have HV2 := Lib.hid (HE2.out.trans (if_pos h0))
  clear h0 HFA HE1 HE2
  go_wp2
  go_ret2
  exact ⟨none, 0, 0, by first | (rw [HV1.out]; done) | (rw [HV1.out]; rfl), HB5.out.alloc HB5.out.size _, by rw [HV2.out]; exact IntsR.nil _ _, Nat.le_refl _⟩
set_option maxHeartbeats 1000000 in
set_option maxRecDepth 100000 in
theorem invariantOf_any (m : Mac) (l : Lim) (ab ag : Option Addr) (nb cb ng cg : Nat) (w : World) (hb : BrR w ab nb m.br) (hg : GrR w ag ng m.gs) :
    Calls Tryz.prog 16 #[.agg #[.slice ab nb cb, .int .i64 m.st, .slice ag ng cg], .agg #[.int .i64 l.volt, .int .i64 l.lo, .int .i64 l.hi, .int .i64 l.circ, .int .i64 l.brk, .int .i64 l.ret]] w
     fun e' w' => ∃ a' n' c', e' = .returned (.tuple #[.slice a' n' c', .int .i64 (invE m l)]) ∧ Below w.heap.size w w' ∧ IntsR w' a' n' (nats (invL m l)) := by
 have HO := Lib.hid (fun (W : World) (hbw : Below w.heap.size w W) => open_any m l ab ag nb cb ng cg W (hb.below hbw) (hg.below hbw))
 have HFA := Lib.hid (fun (h : opnE m l = 0) (W : World) (hbw : Below w.heap.size w W) => failure_any m l ab ag nb cb ng cg W (opnE_zero h).1 (opnE_zero h).2 (hb.below hbw) (hg.below hbw))
 have HRE := Lib.hid (fun (h : opnE m l = 0) (W : World) (hbw : Below w.heap.size w W) => reachable_any m ab ag nb cb ng cg W (opnE_zero h).1 hb.len (hg.below hbw))
 have hE1 : invE m l = if opnE m l ≠ 0 then opnE m l else unl (!(faiV m l).isSome) 12 := rfl
 have hE2 : invL m l = if invE m l ≠ 0 then [] else reaS m := rfl
 rw [show firstErr [(macE m).2, limE l] = opnE m l from rfl] at HO
 generalize invE m l = V1 at *
 generalize invL m l = V2 at *
 generalize opnE m l = E at *
 generalize faiV m l = FV at *
 have HE1 := Lib.hid hE1
 have HE2 := Lib.hid hE2
 obtain ⟨vo, lo, hi, ci, br, re⟩ := l
 obtain ⟨st, hst⟩ : ∃ x, x = m.st := ⟨_, rfl⟩
 rw [← hst] at HO HFA HRE ⊢
 simp only at HO HFA ⊢
 clear hb hg hst hE1 hE2
 go_enter Tryz.func16, Tryz.ntmps16
 go_wp2_with fail
 refine (HO.out _ (by (first|exact bwg|go_size))).mono ?_
 rintro e5 w5 ⟨rfl, hb5⟩
 have HB5 := Lib.hid (show Below w.heap.size w w5 by (first|exact bwg|go_size))
 clear hb5 HO
 by_cases h0 : E = 0
 ·subst h0
  obtain ⟨w6, hW⟩ : ∃ w6, w6 = w5.alloc (Obj.cells #[.slice ab nb cb, .int .i64 st, .slice ag ng cg, .int .i64 vo, .int .i64 lo, .int .i64 hi, .int .i64 ci, .int .i64 br, .int .i64 re] 100) := ⟨_, rfl⟩
  have hb6 : Below w5.heap.size w5 w6 := by rw [hW]; (first|exact bwg|go_size)
  have k6 : BlkR w6 w5.heap.size (.cells #[.slice ab nb cb, .int .i64 st, .slice ag ng cg, .int .i64 vo, .int .i64 lo, .int .i64 hi, .int .i64 ci, .int .i64 br, .int .i64 re] 100) := by show w6.heap[w5.heap.size]? = _; rw [hW]; exact heap_alloc_new _ _
  have HB6 := bwt HB5 hb6
  obtain ⟨X6, hX6⟩ : ∃ X, X = w5.heap.size := ⟨_, rfl⟩
  rw [← hX6] at k6
  have K6 := Lib.hid k6
  obtain ⟨c6, c6_1, c6_2, c6_3, c6_4, c6_5, c6_6, c6_7, c6_8, l6⟩ := blkc9 K6.out
  clear hb6 k6
  have HCW := Lib.hid (HFA.out rfl w6 HB6.out)
  have HV1 := Lib.hid (HE1.out.trans (if_neg (by simp)))
  have HRX := Lib.hid (HRE.out rfl)
  clear HFA HE1 HRE
  generalize FV.getD [] = FL at *
  go_wp2_with fail
  rw [← hW]
  simp only [← hX6]
  clear hW hX6
  refine HCW.out.mono ?_
  rintro e7 w7 ⟨a', n', c', rfl, hb7, hr, _⟩
  have HB7 := bwt HB6 hb7
  have K6 := Lib.hid (K6.out.below hb7)
  clear hb7 hr c6 c6_1 c6_2 c6_3 c6_4 c6_5 c6_6 c6_7 c6_8 l6
  obtain ⟨c6, c6_1, c6_2, c6_3, c6_4, c6_5, c6_6, c6_7, c6_8, l6⟩ := blkc9 K6.out
  have HRW := Lib.hid (HRX.out w7 HB7.out)
  generalize FV.isSome = FB at *
  cases FB
  ·have HV2 := Lib.hid (show V2 = reaS m from HE2.out.trans (by rw [HV1.out]; exact if_neg (by decide)))
   have HV3 := Lib.hid (show V1 = 0 from HV1.out)
   go_wp2_with fail
   refine HRW.out.mono ?_
   rintro e8 w8 ⟨a2, n2, c2, rfl, hb8, hr8⟩
   have HK := Lib.hid (And.intro hb8 hr8)
   clear hb8 hr8
   go_wp2
   go_ret2
   exact ⟨a2, n2, c2, by first | (rw [HV3.out]; done) | (rw [HV3.out]; rfl), HB7.out.trans (HK.out.1.mono HB7.out.size), by rw [HV2.out]; exact HK.out.2⟩
  ·have HV2 := Lib.hid (show V2 = [] from HE2.out.trans (by rw [HV1.out]; exact if_pos (by decide)))
   have HV3 := Lib.hid (show V1 = 12 from HV1.out)
   go_wp2
   go_ret2
   exact ⟨none, 0, 0, by first | (rw [HV3.out]; done) | (rw [HV3.out]; rfl), HB7.out, by rw [HV2.out]; exact IntsR.nil _ _⟩
 ·have e1 := bne_iff_ne.2 h0
  have HV1 := Lib.hid (HE1.out.trans (if_pos h0))
  have HV2 := Lib.hid (show V2 = [] from HE2.out.trans (by rw [HV1.out]; exact if_pos h0))
  clear h0 HFA HE1 HE2 HRE
  go_wp2
  go_ret2
  exact ⟨none, 0, 0, by first | (rw [HV1.out]; done) | (rw [HV1.out]; rfl), HB5.out.alloc HB5.out.size _, by rw [HV2.out]; exact IntsR.nil _ _⟩
/- The exported functions of safe states and changes, and of breaks: the program. -/
def chsZ (m : Mac) (l : Lim) (s : Int) : Int := firstErr [opnE m l, staE m.br.length s]
def chsE (m : Mac) (l : Lim) (s : Int) : Int := if chsZ m l s ≠ 0 then chsZ m l s else safE m l s.toNat
def chmZ (m : Mac) (l : Lim) (s i : Int) : Int := firstErr [opnE m l, staE m.br.length s, conE m.br.length i]
def chmE (m : Mac) (l : Lim) (s i : Int) : Int := if chmZ m l s i ≠ 0 then chmZ m l s i else chgE m l s.toNat i.toNat
theorem chsZ_zero {m : Mac} {l : Lim} {s : Int} (h : chsZ m l s = 0) : MacV m ∧ limE l = 0 ∧ ∃ n : Nat, s = (n : Int) ∧ n < 2 ^ m.br.length := by
 unfold chsZ at h
 rw [firstErr_cons, firstErr_cons, staE_zero] at h
 obtain ⟨hm, hl⟩ := opnE_zero h.1
 refine ⟨hm, hl, s.toNat, by omega, ?_⟩
 have : ((2 ^ m.br.length : Nat) : Int) = (2 : Int) ^ m.br.length := by push_cast; rfl
 omega
theorem chmZ_zero {m : Mac} {l : Lim} {s i : Int} (h : chmZ m l s i = 0) : MacV m ∧ limE l = 0 ∧ (∃ n : Nat, s = (n : Int) ∧ n < 2 ^ m.br.length) ∧ ∃ k : Nat, i = (k : Int) ∧ k < m.br.length := by
 unfold chmZ at h
 rw [firstErr_cons, firstErr_cons, firstErr_cons, staE_zero, conE_zero] at h
 obtain ⟨hm, hl⟩ := opnE_zero h.1
 refine ⟨hm, hl, ⟨s.toNat, by omega, ?_⟩, i.toNat, by omega, by omega⟩
 have : ((2 ^ m.br.length : Nat) : Int) = (2 : Int) ^ m.br.length := by push_cast; rfl
 omega
set_option maxHeartbeats 1000000 in
set_option maxRecDepth 100000 in
theorem checkState_any (m : Mac) (l : Lim) (s : Int) (ab ag : Option Addr) (nb cb ng cg : Nat) (w : World) (hb : BrR w ab nb m.br) (hg : GrR w ag ng m.gs) (h8 : nb ≤ 8) :
    Calls Tryz.prog 24 #[.agg #[.slice ab nb cb, .int .i64 m.st, .slice ag ng cg], .agg #[.int .i64 l.volt, .int .i64 l.lo, .int .i64 l.hi, .int .i64 l.circ, .int .i64 l.brk, .int .i64 l.ret], .int .i64 s] w
     fun e' w' => e' = .returned (.int .i64 (chsE m l s)) ∧ Below w.heap.size w w' := by
 have HO := Lib.hid (fun (W : World) (hbw : Below w.heap.size w W) => open_any m l ab ag nb cb ng cg W (hb.below hbw) (hg.below hbw))
 have HST := Lib.hid (fun (W : World) => m_staE_any m.st nb cb ng cg ab ag s W h8)
 have HSA := Lib.hid (fun (h : chsZ m l s = 0) => show ∃ n : Nat, s = (n : Int) ∧ ∀ (W : World), Below w.heap.size w W → Calls Tryz.prog 62 #[.agg #[.slice ab nb cb, .int .i64 m.st, .slice ag ng cg, .int .i64 l.volt, .int .i64 l.lo, .int .i64 l.hi, .int .i64 l.circ, .int .i64 l.brk, .int .i64 l.ret], .int .i64 (n : Int)] W (fun e' w' => e' = .returned (.int .i64 (safE m l n)) ∧ Below W.heap.size W w') from by
  obtain ⟨hm, hl, n, rfl, hn⟩ := chsZ_zero h
  exact ⟨n, rfl, fun W hbw => safe_any m l n ab ag nb cb ng cg W hm hl (hb.below hbw) (by rw [← hb.len]; exact hn)⟩)
 have hV : chsE m l s = if chsZ m l s ≠ 0 then chsZ m l s else safE m l s.toNat := rfl
 have hZ : chsZ m l s = firstErr [opnE m l, staE nb s] := by unfold chsZ; rw [hb.len]
 rw [show firstErr [(macE m).2, limE l] = opnE m l from rfl] at HO
 generalize chsE m l s = V at *
 generalize chsZ m l s = E at *
 generalize opnE m l = E1 at *
 generalize staE nb s = E2 at *
 obtain ⟨CT, hCT⟩ : ∃ CT : Nat → Int, ∀ n, CT n = safE m l n := ⟨fun n => safE m l n, fun _ => rfl⟩
 simp only [← hCT] at HSA hV
 have HV := Lib.hid hV
 have HZ := Lib.hid hZ
 obtain ⟨vo, lo, hi, ci, br, re⟩ := l
 obtain ⟨st, hst⟩ : ∃ x, x = m.st := ⟨_, rfl⟩
 rw [← hst] at HO HST HSA ⊢
 simp only at HO HSA ⊢
 clear hb hg hst hCT hV hZ
 go_enter Tryz.func24, Tryz.ntmps24
 go_wp2_with fail
 refine (HO.out _ (by (first|exact bwg|go_size))).mono ?_
 rintro e5 w5 ⟨rfl, hb5⟩
 have HB5 := Lib.hid (show Below w.heap.size w w5 by (first|exact bwg|go_size))
 clear hb5 HO
 obtain ⟨w6, hW⟩ : ∃ w6, w6 = w5.alloc (Obj.cells #[.slice ab nb cb, .int .i64 st, .slice ag ng cg, .int .i64 vo, .int .i64 lo, .int .i64 hi, .int .i64 ci, .int .i64 br, .int .i64 re] 100) := ⟨_, rfl⟩
 have hb6 : Below w5.heap.size w5 w6 := by rw [hW]; (first|exact bwg|go_size)
 have k6 : BlkR w6 w5.heap.size (.cells #[.slice ab nb cb, .int .i64 st, .slice ag ng cg, .int .i64 vo, .int .i64 lo, .int .i64 hi, .int .i64 ci, .int .i64 br, .int .i64 re] 100) := by show w6.heap[w5.heap.size]? = _; rw [hW]; exact heap_alloc_new _ _
 have HB6 := bwt HB5 hb6
 obtain ⟨X6, hX6⟩ : ∃ X, X = w5.heap.size := ⟨_, rfl⟩
 rw [← hX6] at k6
 have K6 := Lib.hid k6
 clear hb6 k6
 obtain ⟨c6, c6_1, c6_2, c6_3, c6_4, c6_5, c6_6, c6_7, c6_8, l6⟩ := blkc9 K6.out
 go_wp2_with fail
 rw [← hW]
 simp only [← hX6]
 clear hW hX6
 refine (HST.out _).mono ?_
 rintro e7 w7 ⟨rfl, hb7⟩
 have K6 := Lib.hid (K6.out.below hb7)
 have HB := bwt HB6 hb7
 clear hb7 HST
 clear c6 c6_1 c6_2 c6_3 c6_4 c6_5 c6_6 c6_7 c6_8 l6
 go_wp2_with fail
 refine (t_first2 _ _ _ _ _ _ (by rfl) (by simp)).mono ?_
 rintro e8 w8 ⟨rfl, hw8⟩
 rw [← HZ.out]
 have hb8 : Below w7.heap.size w7 w8 := by rw [← hw8]; (first|exact bwg|go_size)
 have K6 := Lib.hid (K6.out.below hb8)
 have HB := bwt HB hb8
 clear hb8 hw8
 obtain ⟨c6, c6_1, c6_2, c6_3, c6_4, c6_5, c6_6, c6_7, c6_8, l6⟩ := blkc9 K6.out
 by_cases h0 : E = 0
 ·subst h0
  obtain ⟨n, rfl, hcw⟩ := HSA.out (by trivial)
  have HCW := Lib.hid (hcw w8 HB.out)
  have HVN := Lib.hid (show V = CT n from HV.out.trans (by rw [if_neg (by simp), Int.toNat_natCast]))
  clear hcw HSA HV
  go_wp2_with fail
  refine HCW.out.mono ?_
  rintro e9 w9 ⟨rfl, hb9⟩
  go_wp2
  go_ret
  exact ⟨ret_int (by rw [HVN.out]), HB.out.trans (hb9.mono HB.out.size)⟩
 ·have e1 := bne_iff_ne.2 h0
  have HVN := Lib.hid (show V = E from HV.out.trans (if_pos h0))
  clear h0 HSA HV
  go_wp2
  go_ret
  exact ⟨ret_int (by rw [HVN.out]), HB.out⟩
set_option maxHeartbeats 1000000 in
set_option maxRecDepth 100000 in
theorem checkMove_any (m : Mac) (l : Lim) (s i : Int) (ab ag : Option Addr) (nb cb ng cg : Nat) (w : World) (hb : BrR w ab nb m.br) (hg : GrR w ag ng m.gs) (h8 : nb ≤ 8) :
    Calls Tryz.prog 29 #[.agg #[.slice ab nb cb, .int .i64 m.st, .slice ag ng cg], .agg #[.int .i64 l.volt, .int .i64 l.lo, .int .i64 l.hi, .int .i64 l.circ, .int .i64 l.brk, .int .i64 l.ret], .int .i64 s, .int .i64 i] w
     fun e' w' => e' = .returned (.int .i64 (chmE m l s i)) ∧ Below w.heap.size w w' := by
 have HO := Lib.hid (fun (W : World) (hbw : Below w.heap.size w W) => open_any m l ab ag nb cb ng cg W (hb.below hbw) (hg.below hbw))
 have HST := Lib.hid (fun (W : World) => m_staE_any m.st nb cb ng cg ab ag s W h8)
 have HCO := Lib.hid (fun (W : World) => m_conE_any m.st nb cb ng cg ab ag i W (by omega))
 have HSA := Lib.hid (fun (h : chmZ m l s i = 0) => show ∃ n k : Nat, s = (n : Int) ∧ i = (k : Int) ∧ ∀ (W : World), Below w.heap.size w W → Calls Tryz.prog 66 #[.agg #[.slice ab nb cb, .int .i64 m.st, .slice ag ng cg, .int .i64 l.volt, .int .i64 l.lo, .int .i64 l.hi, .int .i64 l.circ, .int .i64 l.brk, .int .i64 l.ret], .int .i64 (n : Int), .int .i64 (k : Int)] W (fun e' w' => e' = .returned (.int .i64 (chgE m l n k)) ∧ Below W.heap.size W w') from by
  obtain ⟨hm, hl, ⟨n, rfl, hn⟩, k, rfl, hk⟩ := chmZ_zero h
  exact ⟨n, k, rfl, rfl, fun W hbw => change_any m l n k ab ag nb cb ng cg W hm hl (hb.below hbw) (hg.below hbw) (by rw [← hb.len]; exact hn) (by rw [← hb.len]; exact hk)⟩)
 have hV : chmE m l s i = if chmZ m l s i ≠ 0 then chmZ m l s i else chgE m l s.toNat i.toNat := rfl
 have hZ : chmZ m l s i = firstErr [opnE m l, staE nb s, conE nb i] := by unfold chmZ; rw [hb.len]
 rw [show firstErr [(macE m).2, limE l] = opnE m l from rfl] at HO
 generalize chmE m l s i = V at *
 generalize chmZ m l s i = E at *
 generalize opnE m l = E1 at *
 generalize staE nb s = E2 at *
 generalize conE nb i = E3 at *
 obtain ⟨CT, hCT⟩ : ∃ CT : Nat → Nat → Int, ∀ n k, CT n k = chgE m l n k := ⟨fun n k => chgE m l n k, fun _ _ => rfl⟩
 simp only [← hCT] at HSA hV
 have HV := Lib.hid hV
 have HZ := Lib.hid hZ
 obtain ⟨vo, lo, hi, ci, br, re⟩ := l
 obtain ⟨st, hst⟩ : ∃ x, x = m.st := ⟨_, rfl⟩
 rw [← hst] at HO HST HCO HSA ⊢
 simp only at HO HSA ⊢
 clear hb hg hst hCT hV hZ
 go_enter Tryz.func29, Tryz.ntmps29
 go_wp2_with fail
 refine (HO.out _ (by (first|exact bwg|go_size))).mono ?_
 rintro e5 w5 ⟨rfl, hb5⟩
 have HB5 := Lib.hid (show Below w.heap.size w w5 by (first|exact bwg|go_size))
 clear hb5 HO
 obtain ⟨w6, hW⟩ : ∃ w6, w6 = w5.alloc (Obj.cells #[.slice ab nb cb, .int .i64 st, .slice ag ng cg, .int .i64 vo, .int .i64 lo, .int .i64 hi, .int .i64 ci, .int .i64 br, .int .i64 re] 100) := ⟨_, rfl⟩
 have hb6 : Below w5.heap.size w5 w6 := by rw [hW]; (first|exact bwg|go_size)
 have k6 : BlkR w6 w5.heap.size (.cells #[.slice ab nb cb, .int .i64 st, .slice ag ng cg, .int .i64 vo, .int .i64 lo, .int .i64 hi, .int .i64 ci, .int .i64 br, .int .i64 re] 100) := by show w6.heap[w5.heap.size]? = _; rw [hW]; exact heap_alloc_new _ _
 have HB6 := bwt HB5 hb6
 obtain ⟨X6, hX6⟩ : ∃ X, X = w5.heap.size := ⟨_, rfl⟩
 rw [← hX6] at k6
 have K6 := Lib.hid k6
 clear hb6 k6
 obtain ⟨c6, c6_1, c6_2, c6_3, c6_4, c6_5, c6_6, c6_7, c6_8, l6⟩ := blkc9 K6.out
 go_wp2_with fail
 rw [← hW]
 simp only [← hX6]
 clear hW hX6
 refine later_of_eq 9 (by kernel_rfl) (by kernel_rfl) ?_; simp only [List.take_succ_cons, List.take_zero, List.drop_succ_cons, List.drop_zero]; repeat go_big_quiet_step(first | with_reducible exact calls_later (HST.out _) | with_reducible exact calls_later (HCO.out _))
 refine wpQuiet_nil ?_; intro w7 hb7
 have K6 := Lib.hid (K6.out.below hb7)
 have HB := bwt HB6 hb7
 clear hb7 HST HCO
 clear c6 c6_1 c6_2 c6_3 c6_4 c6_5 c6_6 c6_7 c6_8 l6
 go_wp2_with fail
 refine (t_first3 _ _ _ _ _ _ _ (by rfl) (by simp)).mono ?_
 rintro e8 w8 ⟨rfl, hw8⟩
 rw [← HZ.out]
 have hb8 : Below w7.heap.size w7 w8 := by rw [← hw8]; (first|exact bwg|go_size)
 have K6 := Lib.hid (K6.out.below hb8)
 have HB := bwt HB hb8
 clear hb8 hw8
 obtain ⟨c6, c6_1, c6_2, c6_3, c6_4, c6_5, c6_6, c6_7, c6_8, l6⟩ := blkc9 K6.out
 by_cases h0 : E = 0
 ·subst h0
  obtain ⟨n, k, rfl, rfl, hcw⟩ := HSA.out (by trivial)
  have HCW := Lib.hid (hcw w8 HB.out)
  have HVN := Lib.hid (show V = CT n k from HV.out.trans (by rw [if_neg (by simp), Int.toNat_natCast, Int.toNat_natCast]))
  clear hcw HSA HV
  go_wp2_with fail
  refine HCW.out.mono ?_
  rintro e9 w9 ⟨rfl, hb9⟩
  go_wp2
  go_ret
  exact ⟨ret_int (by rw [HVN.out]), HB.out.trans (hb9.mono HB.out.size)⟩
 ·have e1 := bne_iff_ne.2 h0
  have HVN := Lib.hid (show V = E from HV.out.trans (if_pos h0))
  clear h0 HSA HV
  go_wp2
  go_ret
  exact ⟨ret_int (by rw [HVN.out]), HB.out⟩
theorem open6_any (m : Mac) (l : Lim) (ab ag : Option Addr) (nb cb ng cg : Nat) (w : World) (hb : BrR w ab nb m.br) (hg : GrR w ag ng m.gs) :
    Calls Tryz.prog 48 #[.agg #[.slice ab nb cb, .int .i64 m.st, .slice ag ng cg], .agg #[.int .i64 l.volt, .int .i64 l.lo, .int .i64 l.hi, .int .i64 l.circ, .int .i64 l.brk, .int .i64 l.ret]] w
     fun e' w' => e' = .returned (.tuple #[.agg #[.slice ab nb cb, .int .i64 m.st, .slice ag ng cg, .int .i64 l.volt, .int .i64 l.lo, .int .i64 l.hi, .int .i64 l.circ, .int .i64 l.brk, .int .i64 l.ret], .int .i64 (firstErr [(macE m).2, limE l])]) ∧ Below w.heap.size w w' :=
 open_any m l ab ag nb cb ng cg w hb hg
end Go.Proofs.YtdjinmieogpgcaaGreat
