import Derived.Test.YtidboecjllaofaaGreatMD
import Derived.Test.YtidboecjllaofaaGreatTCirP
import Derived.Test.YtidboecjllaofaaGreatTCurr
/- A machine, limits, a state and a load that are checked; the exported functions of currents. -/
namespace Go.Proofs.YtidboecjllaofaaGreat
open Go.RowKit Go.Shelf
set_option linter.unusedVariables false
set_option linter.unusedSimpArgs false

/-- The error of an electric question. -/
def eleZ (m : Mac) (l : Lim) (s load : Int) : Int := firstErr [firstErr [(macE m).2, limE l], staE m.br.length s, loaE load]
def eleE (m : Mac) (l : Lim) (s load : Int) : Int := if eleZ m l s load ≠ 0 then eleZ m l s load else curE m s.toNat
theorem blk_put9 {w : World} {X t : Nat} {x0 x1 x2 x3 x4 x5 x6 x7 x8 : Value} (h : w.heap[X]? = some (.cells #[x0, x1, x2, x3, x4, x5, x6, x7, x8] t)) (v0 v1 v2 v3 v4 v5 v6 v7 v8 : Value) :
    (((((((((w.setCell ⟨X, 0, none⟩ v0).setCell ⟨X, 1, none⟩ v1).setCell ⟨X, 2, none⟩ v2).setCell ⟨X, 3, none⟩ v3).setCell ⟨X, 4, none⟩ v4).setCell ⟨X, 5, none⟩ v5).setCell ⟨X, 6, none⟩ v6).setCell ⟨X, 7, none⟩ v7).setCell ⟨X, 8, none⟩ v8).heap[X]? = some (.cells #[v0, v1, v2, v3, v4, v5, v6, v7, v8] t) := by
  have h0 : (w.setCell ⟨X, 0, none⟩ v0).heap[X]? = some (.cells #[v0, x1, x2, x3, x4, x5, x6, x7, x8] t) := by rw [blk_set h 0 v0]; rfl
  have h1 : ((w.setCell ⟨X, 0, none⟩ v0).setCell ⟨X, 1, none⟩ v1).heap[X]? = some (.cells #[v0, v1, x2, x3, x4, x5, x6, x7, x8] t) := by rw [blk_set h0 1 v1]; rfl
  have h2 : (((w.setCell ⟨X, 0, none⟩ v0).setCell ⟨X, 1, none⟩ v1).setCell ⟨X, 2, none⟩ v2).heap[X]? = some (.cells #[v0, v1, v2, x3, x4, x5, x6, x7, x8] t) := by rw [blk_set h1 2 v2]; rfl
  have h3 : ((((w.setCell ⟨X, 0, none⟩ v0).setCell ⟨X, 1, none⟩ v1).setCell ⟨X, 2, none⟩ v2).setCell ⟨X, 3, none⟩ v3).heap[X]? = some (.cells #[v0, v1, v2, v3, x4, x5, x6, x7, x8] t) := by rw [blk_set h2 3 v3]; rfl
  have h4 : (((((w.setCell ⟨X, 0, none⟩ v0).setCell ⟨X, 1, none⟩ v1).setCell ⟨X, 2, none⟩ v2).setCell ⟨X, 3, none⟩ v3).setCell ⟨X, 4, none⟩ v4).heap[X]? = some (.cells #[v0, v1, v2, v3, v4, x5, x6, x7, x8] t) := by rw [blk_set h3 4 v4]; rfl
  have h5 : ((((((w.setCell ⟨X, 0, none⟩ v0).setCell ⟨X, 1, none⟩ v1).setCell ⟨X, 2, none⟩ v2).setCell ⟨X, 3, none⟩ v3).setCell ⟨X, 4, none⟩ v4).setCell ⟨X, 5, none⟩ v5).heap[X]? = some (.cells #[v0, v1, v2, v3, v4, v5, x6, x7, x8] t) := by rw [blk_set h4 5 v5]; rfl
  have h6 : (((((((w.setCell ⟨X, 0, none⟩ v0).setCell ⟨X, 1, none⟩ v1).setCell ⟨X, 2, none⟩ v2).setCell ⟨X, 3, none⟩ v3).setCell ⟨X, 4, none⟩ v4).setCell ⟨X, 5, none⟩ v5).setCell ⟨X, 6, none⟩ v6).heap[X]? = some (.cells #[v0, v1, v2, v3, v4, v5, v6, x7, x8] t) := by rw [blk_set h5 6 v6]; rfl
  have h7 : ((((((((w.setCell ⟨X, 0, none⟩ v0).setCell ⟨X, 1, none⟩ v1).setCell ⟨X, 2, none⟩ v2).setCell ⟨X, 3, none⟩ v3).setCell ⟨X, 4, none⟩ v4).setCell ⟨X, 5, none⟩ v5).setCell ⟨X, 6, none⟩ v6).setCell ⟨X, 7, none⟩ v7).heap[X]? = some (.cells #[v0, v1, v2, v3, v4, v5, v6, v7, x8] t) := by rw [blk_set h6 7 v7]; rfl
  have h8 : (((((((((w.setCell ⟨X, 0, none⟩ v0).setCell ⟨X, 1, none⟩ v1).setCell ⟨X, 2, none⟩ v2).setCell ⟨X, 3, none⟩ v3).setCell ⟨X, 4, none⟩ v4).setCell ⟨X, 5, none⟩ v5).setCell ⟨X, 6, none⟩ v6).setCell ⟨X, 7, none⟩ v7).setCell ⟨X, 8, none⟩ v8).heap[X]? = some (.cells #[v0, v1, v2, v3, v4, v5, v6, v7, v8] t) := by rw [blk_set h7 8 v8]; rfl
  exact h8
theorem below_put9 {w0 w : World} {B X : Nat} (h : Below B w0 w) (hX : B ≤ X) (v0 v1 v2 v3 v4 v5 v6 v7 v8 : Value) :
    Below B w0 (((((((((w.setCell ⟨X, 0, none⟩ v0).setCell ⟨X, 1, none⟩ v1).setCell ⟨X, 2, none⟩ v2).setCell ⟨X, 3, none⟩ v3).setCell ⟨X, 4, none⟩ v4).setCell ⟨X, 5, none⟩ v5).setCell ⟨X, 6, none⟩ v6).setCell ⟨X, 7, none⟩ v7).setCell ⟨X, 8, none⟩ v8) :=
  ((((((((h.setCell hX _).setCell hX _).setCell hX _).setCell hX _).setCell hX _).setCell hX _).setCell hX _).setCell hX _).setCell hX _
theorem eleZ_zero {m : Mac} {l : Lim} {s load : Int} (h : eleZ m l s load = 0) : MacV m ∧ limE l = 0 ∧ (∃ n : Nat, s = (n : Int) ∧ n < 2 ^ m.br.length) ∧ -1000 ≤ load ∧ load ≤ 1000 := by
  unfold eleZ at h
  rw [firstErr_cons, firstErr_cons, firstErr_cons, firstErr_cons, firstErr_cons, staE_zero, loaE_zero] at h
  obtain ⟨⟨h1, h2, _⟩, h3, h4, _⟩ := h
  have hm := (macE_zero h1).2
  refine ⟨hm, h2, ⟨s.toNat, by omega, ?_⟩, h4⟩
  have : ((2 ^ m.br.length : Nat) : Int) = (2 : Int) ^ m.br.length := by push_cast; rfl
  omega
/-- What a state without an error of currents gives. -/
theorem ElV.of {m : Mac} {l : Lim} {n : Nat} {load : Int} (h : eleZ m l (n : Int) load = 0) (h0 : curE m n = 0) : ElV m l n load := by
  obtain ⟨hm, hl, ⟨k, hk, hk2⟩, hd⟩ := eleZ_zero h
  obtain rfl : n = k := by omega
  refine ⟨hm, (limE_zero.1 hl).1, hd, hk2, ?_⟩
  rintro rfl
  rw [curE_cases, if_pos rfl] at h0
  exact absurd h0 (by decide)
set_option maxHeartbeats 2000000 in
set_option maxRecDepth 100000 in
theorem electric_any (m : Mac) (l : Lim) (s load : Int) (ab ag : Option Addr) (nb cb ng cg : Nat) (w : World) (hb : BrR w ab nb m.br) (hg : GrR w ag ng m.gs) (h8 : nb ≤ 8) :
    Calls Tryz.prog 98 #[.agg #[.slice ab nb cb, .int .i64 m.st, .slice ag ng cg], .agg #[.int .i64 l.volt, .int .i64 l.lo, .int .i64 l.hi, .int .i64 l.circ, .int .i64 l.brk, .int .i64 l.ret], .int .i64 s, .int .i64 load] w
      fun e' w' => e' = .returned (.tuple #[.agg #[.slice ab nb cb, .int .i64 m.st, .slice ag ng cg, .int .i64 l.volt, .int .i64 l.lo, .int .i64 l.hi, .int .i64 l.circ, .int .i64 l.brk, .int .i64 l.ret], .int .i64 (eleE m l s load)]) ∧ Below w.heap.size w w' := by
  have HO := Lib.hid (fun (W : World) (hbw : Below w.heap.size w W) => open_any m l ab ag nb cb ng cg W (hb.below hbw) (hg.below hbw))
  have HST := Lib.hid (fun (W : World) => m_staE_any m.st nb cb ng cg ab ag s W h8)
  have HLO := Lib.hid (fun (W : World) => loadE_any load W)
  have HZ := Lib.hid (fun (h : eleZ m l s load = 0) => eleZ_zero h)
  have HCE := Lib.hid (fun (hm : MacV m) (n : Nat) (hn : n < 2 ^ nb) (W : World) (hbw : Below w.heap.size w W) => currentsErr_any m l n ab ag nb cb ng cg W hm (hb.below hbw) hn)
  have hE : eleZ m l s load = firstErr [firstErr [(macE m).2, limE l], staE nb s, loaE load] := by unfold eleZ; rw [hb.len]
  have hV : eleE m l s load = if eleZ m l s load ≠ 0 then eleZ m l s load else curE m s.toNat := rfl
  have HLB := Lib.hid hb.len
  obtain ⟨V, hVV⟩ : ∃ V, V = eleE m l s load := ⟨_, rfl⟩
  rw [← hVV] at hV ⊢
  generalize eleZ m l s load = E at *
  generalize firstErr [(macE m).2, limE l] = E1 at *
  generalize staE nb s = E2 at *
  generalize loaE load = E3 at *
  obtain ⟨vo, lo, hi, ci, br, re⟩ := l
  obtain ⟨st, hst⟩ : ∃ x, x = m.st := ⟨_, rfl⟩
  rw [← hst] at HO HST HCE ⊢
  simp only at HO HCE ⊢
  have HE := Lib.hid hE
  have HV := Lib.hid hV
  clear hb hg hst hE hV hVV h8
  go_enter Tryz.func98, Tryz.ntmps98
  go_wp2_with fail
  refine (HO.out _ (by (repeat' (first | (with_reducible exact Below.refl _ _) | (with_reducible assumption) | (with_reducible refine Below.drewN ?_ _) | (with_reducible refine Below.alloc ?_ ?_ _) | (with_reducible refine Below.drew ?_) | (with_reducible refine Below.setCell ?_ ?_ _) | (with_reducible refine Below.step (by assumption) ?_ ?_) | (with_reducible exact And.left (by assumption)) | go_size)))).mono ?_
  rintro e5 w5 ⟨rfl, hb5⟩
  have k8 : BlkR w5 (w.heap.size + 1 + 1) (.cells #[.slice none 0 0, .int .i64 0, .slice none 0 0, .int .i64 0, .int .i64 0, .int .i64 0, .int .i64 0, .int .i64 0, .int .i64 0] 164) := by
    show w5.heap[w.heap.size + 1 + 1]? = _
    rw [hb5.block _ (by simp)]
    have := heap_alloc_new ((w.alloc (Obj.cells #[.slice ab nb cb, .int .i64 st, .slice ag ng cg] 45)).alloc (Obj.cells #[.int .i64 vo, .int .i64 lo, .int .i64 hi, .int .i64 ci, .int .i64 br, .int .i64 re] 47)) (Obj.cells #[.slice none 0 0, .int .i64 0, .slice none 0 0, .int .i64 0, .int .i64 0, .int .i64 0, .int .i64 0, .int .i64 0, .int .i64 0] 164)
    simpa using this
  have HB5 := Lib.hid (show Below w.heap.size w w5 by (repeat' (first | (with_reducible exact Below.refl _ _) | (with_reducible assumption) | (with_reducible refine Below.drewN ?_ _) | (with_reducible refine Below.alloc ?_ ?_ _) | (with_reducible refine Below.drew ?_) | (with_reducible refine Below.setCell ?_ ?_ _) | (with_reducible refine Below.step (by assumption) ?_ ?_) | (with_reducible exact And.left (by assumption)) | go_size)))
  obtain ⟨X8, hX8⟩ : ∃ X, X = w.heap.size + 1 + 1 := ⟨_, rfl⟩
  rw [← hX8] at k8 ⊢
  have hx8 : w.heap.size ≤ X8 := by omega
  clear hb5 HO hX8
  go_wp2_with fail
  obtain ⟨w6, hW⟩ : ∃ w6, w6 = w5.alloc (Obj.cells #[.slice ab nb cb, .int .i64 st, .slice ag ng cg, .int .i64 vo, .int .i64 lo, .int .i64 hi, .int .i64 ci, .int .i64 br, .int .i64 re] 164) := ⟨_, rfl⟩
  rw [← hW]
  obtain ⟨X6, hX6⟩ : ∃ X, X = w5.heap.size := ⟨_, rfl⟩
  rw [← hX6]
  have hb6 : Below w5.heap.size w5 w6 := by rw [hW]; (repeat' (first | (with_reducible exact Below.refl _ _) | (with_reducible assumption) | (with_reducible refine Below.drewN ?_ _) | (with_reducible refine Below.alloc ?_ ?_ _) | (with_reducible refine Below.drew ?_) | (with_reducible refine Below.setCell ?_ ?_ _) | (with_reducible refine Below.step (by assumption) ?_ ?_) | (with_reducible exact And.left (by assumption)) | go_size))
  have k6 : BlkR w6 X6 (.cells #[.slice ab nb cb, .int .i64 st, .slice ag ng cg, .int .i64 vo, .int .i64 lo, .int .i64 hi, .int .i64 ci, .int .i64 br, .int .i64 re] 164) := by show w6.heap[X6]? = _; rw [hW, hX6]; exact heap_alloc_new _ _
  have n86 : X8 ≠ X6 := by have := k8.lt; omega
  refine (HST.out _).mono ?_
  rintro e7 w7 ⟨rfl, hb7⟩
  have HB := Lib.hid (HB5.out.trans ((hb6.trans (hb7.mono hb6.size)).mono HB5.out.size))
  have K8 := Lib.hid ((k8.below hb6).below hb7)
  have K6 := Lib.hid (k6.below hb7)
  clear hW hX6 hb6 hb7 k6 k8 HB5 HST
  go_wp2_with fail
  refine (HLO.out _).mono ?_
  rintro e7 w7 ⟨rfl, rfl⟩
  go_wp2_with fail
  refine (t_first3 _ _ _ _ _ _ _ (by rfl) (by simp)).mono ?_
  rintro e8 w8 ⟨rfl, hw8⟩
  have hb8 : Below w7.heap.size w7 w8 := by rw [← hw8]; (repeat' (first | (with_reducible exact Below.refl _ _) | (with_reducible assumption) | (with_reducible refine Below.drewN ?_ _) | (with_reducible refine Below.alloc ?_ ?_ _) | (with_reducible refine Below.drew ?_) | (with_reducible refine Below.setCell ?_ ?_ _) | (with_reducible refine Below.step (by assumption) ?_ ?_) | (with_reducible exact And.left (by assumption)) | go_size))
  have HB := Lib.hid (HB.out.trans (hb8.mono HB.out.size))
  have K8 := Lib.hid (K8.out.below hb8)
  have K6 := Lib.hid (K6.out.below hb8)
  clear hb8 hw8 HLO
  rw [← HE.out]
  have c6 := blk_cell K6.out (i := 0) rfl
  have c6_1 := blk_cell K6.out (i := 1) rfl
  have c6_2 := blk_cell K6.out (i := 2) rfl
  have c6_3 := blk_cell K6.out (i := 3) rfl
  have c6_4 := blk_cell K6.out (i := 4) rfl
  have c6_5 := blk_cell K6.out (i := 5) rfl
  have c6_6 := blk_cell K6.out (i := 6) rfl
  have c6_7 := blk_cell K6.out (i := 7) rfl
  have c6_8 := blk_cell K6.out (i := 8) rfl
  have l6 := K6.out.lt
  by_cases h0 : E = 0
  · subst h0
    obtain ⟨hm, _, ⟨n, rfl, hn⟩, _⟩ := HZ.out (by first | rfl | trivial)
    have HVN := Lib.hid (show V = curE m n by rw [HV.out, if_neg (by simp), Int.toNat_natCast])
    rw [HLB.out] at hn
    have HCN := Lib.hid (fun (W : World) (hbw : Below w8.heap.size w8 W) => HCE.out hm n hn W (HB.out.trans (hbw.mono HB.out.size)))
    generalize curE m n = CE at *
    clear hm hn HCE HV HZ
    go_wp2_with fail
    refine later_of_eq 4 (by kernel_rfl) (by kernel_rfl) ?_; simp only [List.take_succ_cons, List.take_zero, List.drop_succ_cons, List.drop_zero]; repeat go_big_quiet_step(with_reducible exact calls_later (HCN.out _ (Later.below _)))
    refine wpQuiet_nil ?_; intro w9 hb9
    have HB := Lib.hid (HB.out.trans (hb9.mono HB.out.size))
    have K8 := Lib.hid (K8.out.below hb9)
    clear hb9 c6 c6_1 c6_2 c6_3 c6_4 c6_5 c6_6 c6_7 c6_8 l6 K6
    have HKK := Lib.hid (show w9.heap[X8]? = _ from K8.out)
    have d8 := blk_cell HKK.out (i := 0) rfl
    have d8_1 := blk_cell HKK.out (i := 1) rfl
    have d8_2 := blk_cell HKK.out (i := 2) rfl
    have d8_3 := blk_cell HKK.out (i := 3) rfl
    have d8_4 := blk_cell HKK.out (i := 4) rfl
    have d8_5 := blk_cell HKK.out (i := 5) rfl
    have d8_6 := blk_cell HKK.out (i := 6) rfl
    have d8_7 := blk_cell HKK.out (i := 7) rfl
    have d8_8 := blk_cell HKK.out (i := 8) rfl
    have fz0 := blk_fz HKK.out 0
    have fz1 := blk_fz HKK.out 1
    have fz2 := blk_fz HKK.out 2
    have fz3 := blk_fz HKK.out 3
    have fz4 := blk_fz HKK.out 4
    have fz5 := blk_fz HKK.out 5
    have fz6 := blk_fz HKK.out 6
    have fz7 := blk_fz HKK.out 7
    have fz8 := blk_fz HKK.out 8
    have l8 := K8.out.lt
    go_wp2
    refine bodyPost_ret (v := .tuple #[.agg #[.slice ab nb cb, .int .i64 st, .slice ag ng cg, .int .i64 vo, .int .i64 lo, .int .i64 hi, .int .i64 ci, .int .i64 br, .int .i64 re], .int .i64 CE]) ?_ rfl ⟨by rw [HVN.out], below_put9 HB.out hx8 _ _ _ _ _ _ _ _ _⟩
    have kw := blk_put9 HKK.out (.slice ab nb cb) (.int .i64 st) (.slice ag ng cg) (.int .i64 vo) (.int .i64 lo) (.int .i64 hi) (.int .i64 ci) (.int .i64 br) (.int .i64 re)
    generalize World.setCell (World.setCell (World.setCell (World.setCell (World.setCell (World.setCell (World.setCell (World.setCell (World.setCell _ _ _) _ _) _ _) _ _) _ _) _ _) _ _) _ _) _ _ = wz at *
    have e8 := blk_cell kw (i := 0) rfl
    have e8_1 := blk_cell kw (i := 1) rfl
    have e8_2 := blk_cell kw (i := 2) rfl
    have e8_3 := blk_cell kw (i := 3) rfl
    have e8_4 := blk_cell kw (i := 4) rfl
    have e8_5 := blk_cell kw (i := 5) rfl
    have e8_6 := blk_cell kw (i := 6) rfl
    have e8_7 := blk_cell kw (i := 7) rfl
    have e8_8 := blk_cell kw (i := 8) rfl
    simp [results, Tryz.results98, go_sem, e8, e8_1, e8_2, e8_3, e8_4, e8_5, e8_6, e8_7, e8_8]
  · have HVN := Lib.hid (show V = E by rw [HV.out, if_pos h0])
    have e1 := bne_iff_ne.2 h0
    clear h0 HCE HV HZ
    have HKK := Lib.hid (show w8.heap[X8]? = _ from K8.out)
    have d8 := blk_cell HKK.out (i := 0) rfl
    have d8_1 := blk_cell HKK.out (i := 1) rfl
    have d8_2 := blk_cell HKK.out (i := 2) rfl
    have d8_3 := blk_cell HKK.out (i := 3) rfl
    have d8_4 := blk_cell HKK.out (i := 4) rfl
    have d8_5 := blk_cell HKK.out (i := 5) rfl
    have d8_6 := blk_cell HKK.out (i := 6) rfl
    have d8_7 := blk_cell HKK.out (i := 7) rfl
    have d8_8 := blk_cell HKK.out (i := 8) rfl
    have fz0 := blk_fz HKK.out 0
    have fz1 := blk_fz HKK.out 1
    have fz2 := blk_fz HKK.out 2
    have fz3 := blk_fz HKK.out 3
    have fz4 := blk_fz HKK.out 4
    have fz5 := blk_fz HKK.out 5
    have fz6 := blk_fz HKK.out 6
    have fz7 := blk_fz HKK.out 7
    have fz8 := blk_fz HKK.out 8
    have l8 := K8.out.lt
    go_wp2
    refine bodyPost_ret (v := .tuple #[.agg #[.slice ab nb cb, .int .i64 st, .slice ag ng cg, .int .i64 vo, .int .i64 lo, .int .i64 hi, .int .i64 ci, .int .i64 br, .int .i64 re], .int .i64 E]) ?_ rfl ⟨by rw [HVN.out], below_put9 HB.out hx8 _ _ _ _ _ _ _ _ _⟩
    have kw := blk_put9 HKK.out (.slice ab nb cb) (.int .i64 st) (.slice ag ng cg) (.int .i64 vo) (.int .i64 lo) (.int .i64 hi) (.int .i64 ci) (.int .i64 br) (.int .i64 re)
    generalize World.setCell (World.setCell (World.setCell (World.setCell (World.setCell (World.setCell (World.setCell (World.setCell (World.setCell _ _ _) _ _) _ _) _ _) _ _) _ _) _ _) _ _) _ _ = wz at *
    have e8 := blk_cell kw (i := 0) rfl
    have e8_1 := blk_cell kw (i := 1) rfl
    have e8_2 := blk_cell kw (i := 2) rfl
    have e8_3 := blk_cell kw (i := 3) rfl
    have e8_4 := blk_cell kw (i := 4) rfl
    have e8_5 := blk_cell kw (i := 5) rfl
    have e8_6 := blk_cell kw (i := 6) rfl
    have e8_7 := blk_cell kw (i := 7) rfl
    have e8_8 := blk_cell kw (i := 8) rfl
    simp [results, Tryz.results98, go_sem, e8, e8_1, e8_2, e8_3, e8_4, e8_5, e8_6, e8_7, e8_8]
end Go.Proofs.YtidboecjllaofaaGreat
