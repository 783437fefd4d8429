import Derived.Shelf.Sort.Plain
import Derived.Sort.OwnSortedInts
import Derived.Deep.CutRange
import Derived.Test.YtdjinmieogpgcaaGreatTCurr
/- A machine, limits, a state and a load that are checked; the exported functions of currents. -/
namespace Go.Proofs.YtdjinmieogpgcaaGreat
open Go.RowKit Go.Shelf
set_option linter.unusedVariables false
set_option linter.unusedSimpArgs false
def eleZ (m : Mac) (l : Lim) (s load : Int) : Int := firstErr [firstErr [(macE m).2, limE l], staE m.br.length s, loaE load]
def eleE (m : Mac) (l : Lim) (s load : Int) : Int := if eleZ m l s load ≠ 0 then eleZ m l s load else curE m s.toNat
theorem blk_put9 {w : World} {X t : Nat} {x0 x1 x2 x3 x4 x5 x6 x7 x8 : Value} (h : w.heap[X]? = some (.cells #[x0, x1, x2, x3, x4, x5, x6, x7, x8] t)) (v0 v1 v2 v3 v4 v5 v6 v7 v8 : Value) :
    (((((((((w.setCell ⟨X, 0, none⟩ v0).setCell ⟨X, 1, none⟩ v1).setCell ⟨X, 2, none⟩ v2).setCell ⟨X, 3, none⟩ v3).setCell ⟨X, 4, none⟩ v4).setCell ⟨X, 5, none⟩ v5).setCell ⟨X, 6, none⟩ v6).setCell ⟨X, 7, none⟩ v7).setCell ⟨X, 8, none⟩ v8).heap[X]? = some (.cells #[v0, v1, v2, v3, v4, v5, v6, v7, v8] t) := by
 have h0 : (w.setCell ⟨X, 0, none⟩ v0).heap[X]? = some (.cells #[v0, x1, x2, x3, x4, x5, x6, x7, x8] t) := by rw [blk_set h 0 v0]; rfl
 have h1 : ((w.setCell ⟨X, 0, none⟩ v0).setCell ⟨X, 1, none⟩ v1).heap[X]? = some (.cells #[v0, v1, x2, x3, x4, x5, x6, x7, x8] t) := by rw [blk_set h0 1 v1]; rfl
 have h2 : (((w.setCell ⟨X, 0, none⟩ v0).setCell ⟨X, 1, none⟩ v1).setCell ⟨X, 2, none⟩ v2).heap[X]? = some (.cells #[v0, v1, v2, x3, x4, x5, x6, x7, x8] t) := by rw [blk_set h1 2 v2]; rfl
 have h3 : ((((w.setCell ⟨X, 0, none⟩ v0).setCell ⟨X, 1, none⟩ v1).setCell ⟨X, 2, none⟩ v2).setCell ⟨X, 3, none⟩ v3).heap[X]? = some (.cells #[v0, v1, v2, v3, x4, x5, x6, x7, x8] t) := by rw [blk_set h2 3 v3]; rfl
 have h4 : (((((w.setCell ⟨X, 0, none⟩ v0).setCell ⟨X, 1, none⟩ v1).setCell ⟨X, 2, none⟩ v2).setCell ⟨X, 3, none⟩ v3).setCell ⟨X, 4, none⟩ v4).heap[X]? = some (.cells #[v0, v1, v2, v3, v4, x5, x6, x7, x8] t) := by rw [blk_set h3 4 v4]; rfl
 have h5 : ((((((w.setCell ⟨X, 0, none⟩ v0).setCell ⟨X, 1, none⟩ v1).setCell ⟨X, 2, none⟩ v2).setCell ⟨X, 3, none⟩ v3).setCell ⟨X, 4, none⟩ v4).setCell ⟨X, 5, none⟩ v5).heap[X]? = some (.cells #[v0, v1, v2, v3, v4, v5, x6, x7, x8] t) := by rw [blk_set h4 5 v5]; rfl
 have h6 : (((((((w.setCell ⟨X, 0, none⟩ v0).setCell ⟨X, 1, none⟩ v1).setCell ⟨X, 2, none⟩ v2).setCell ⟨X, 3, none⟩ v3).setCell ⟨X, 4, none⟩ v4).setCell ⟨X, 5, none⟩ v5).setCell ⟨X, 6, none⟩ v6).heap[X]? = some (.cells #[v0, v1, v2, v3, v4, v5, v6, x7, x8] t) := by rw [blk_set h5 6 v6]; rfl
 have h7 : ((((((((w.setCell ⟨X, 0, none⟩ v0).setCell ⟨X, 1, none⟩ v1).setCell ⟨X, 2, none⟩ v2).setCell ⟨X, 3, none⟩ v3).setCell ⟨X, 4, none⟩ v4).setCell ⟨X, 5, none⟩ v5).setCell ⟨X, 6, none⟩ v6).setCell ⟨X, 7, none⟩ v7).heap[X]? = some (.cells #[v0, v1, v2, v3, v4, v5, v6, v7, x8] t) := by rw [blk_set h6 7 v7]; rfl
 have h8 : (((((((((w.setCell ⟨X, 0, none⟩ v0).setCell ⟨X, 1, none⟩ v1).setCell ⟨X, 2, none⟩ v2).setCell ⟨X, 3, none⟩ v3).setCell ⟨X, 4, none⟩ v4).setCell ⟨X, 5, none⟩ v5).setCell ⟨X, 6, none⟩ v6).setCell ⟨X, 7, none⟩ v7).setCell ⟨X, 8, none⟩ v8).heap[X]? = some (.cells #[v0, v1, v2, v3, v4, v5, v6, v7, v8] t) := by rw [blk_set h7 8 v8]; rfl
 exact h8
theorem below_put9 {w0 w : World} {B X : Nat} (h : Below B w0 w) (hX : B ≤ X) (v0 v1 v2 v3 v4 v5 v6 v7 v8 : Value) :
    Below B w0 (((((((((w.setCell ⟨X, 0, none⟩ v0).setCell ⟨X, 1, none⟩ v1).setCell ⟨X, 2, none⟩ v2).setCell ⟨X, 3, none⟩ v3).setCell ⟨X, 4, none⟩ v4).setCell ⟨X, 5, none⟩ v5).setCell ⟨X, 6, none⟩ v6).setCell ⟨X, 7, none⟩ v7).setCell ⟨X, 8, none⟩ v8) :=
 ((((((((h.setCell hX _).setCell hX _).setCell hX _).setCell hX _).setCell hX _).setCell hX _).setCell hX _).setCell hX _).setCell hX _
theorem eleZ_zero {m : Mac} {l : Lim} {s load : Int} (h : eleZ m l s load = 0) : MacV m ∧ limE l = 0 ∧ (∃ n : Nat, s = (n : Int) ∧ n < 2 ^ m.br.length) ∧ -1000 ≤ load ∧ load ≤ 1000 := by
 unfold eleZ at h
 rw [firstErr_cons, firstErr_cons, firstErr_cons, firstErr_cons, firstErr_cons, staE_zero, loaE_zero] at h
 obtain ⟨⟨h1, h2, _⟩, h3, h4, _⟩ := h
 have hm := (macE_zero h1).2
 refine ⟨hm, h2, ⟨s.toNat, by omega, ?_⟩, h4⟩
 have : ((2 ^ m.br.length : Nat) : Int) = (2 : Int) ^ m.br.length := by push_cast; rfl
 omega
theorem ElV.of {m : Mac} {l : Lim} {n : Nat} {load : Int} (h : eleZ m l (n : Int) load = 0) (h0 : curE m n = 0) : ElV m l n load := by
 obtain ⟨hm, hl, ⟨k, hk, hk2⟩, hd⟩ := eleZ_zero h
 obtain rfl : n = k := by omega
 refine ⟨hm, (limE_zero.1 hl).1, hd, hk2, ?_⟩
 rintro rfl
 rw [curE_cases, if_pos rfl] at h0
 exact absurd h0 (by decide)
set_option maxHeartbeats 2000000 in
set_option maxRecDepth 100000 in
theorem electric_any (m : Mac) (l : Lim) (s load : Int) (ab ag : Option Addr) (nb cb ng cg : Nat) (w : World) (hb : BrR w ab nb m.br) (hg : GrR w ag ng m.gs) (h8 : nb ≤ 8) :
    Calls Tryz.prog 67 #[.agg #[.slice ab nb cb, .int .i64 m.st, .slice ag ng cg], .agg #[.int .i64 l.volt, .int .i64 l.lo, .int .i64 l.hi, .int .i64 l.circ, .int .i64 l.brk, .int .i64 l.ret], .int .i64 s, .int .i64 load] w
     fun e' w' => e' = .returned (.tuple #[.agg #[.slice ab nb cb, .int .i64 m.st, .slice ag ng cg, .int .i64 l.volt, .int .i64 l.lo, .int .i64 l.hi, .int .i64 l.circ, .int .i64 l.brk, .int .i64 l.ret], .int .i64 (eleE m l s load)]) ∧ Below w.heap.size w w' := by
 have HO := Lib.hid (fun (W : World) (hbw : Below w.heap.size w W) => open_any m l ab ag nb cb ng cg W (hb.below hbw) (hg.below hbw))
 have HST := Lib.hid (fun (W : World) => m_staE_any m.st nb cb ng cg ab ag s W h8)
 have HLO := Lib.hid (fun (W : World) => loadE_any load W)
 have HZ := Lib.hid (fun (h : eleZ m l s load = 0) => eleZ_zero h)
 have HCE := Lib.hid (fun (hm : MacV m) (n : Nat) (hn : n < 2 ^ nb) (W : World) (hbw : Below w.heap.size w W) => currentsErr_any m l n ab ag nb cb ng cg W hm (hb.below hbw) hn)
 have hE : eleZ m l s load = firstErr [firstErr [(macE m).2, limE l], staE nb s, loaE load] := by unfold eleZ; rw [hb.len]
 have hV : eleE m l s load = if eleZ m l s load ≠ 0 then eleZ m l s load else curE m s.toNat := rfl
 have HLB := Lib.hid hb.len
 obtain ⟨V, hVV⟩ : ∃ V, V = eleE m l s load := ⟨_, rfl⟩
 rw [← hVV] at hV ⊢
 generalize eleZ m l s load = E at *
 generalize firstErr [(macE m).2, limE l] = E1 at *
 generalize staE nb s = E2 at *
 generalize loaE load = E3 at *
 obtain ⟨vo, lo, hi, ci, br, re⟩ := l
 obtain ⟨st, hst⟩ : ∃ x, x = m.st := ⟨_, rfl⟩
 rw [← hst] at HO HST HCE ⊢
 simp only at HO HCE ⊢
 have HE := Lib.hid hE
 have HV := Lib.hid hV
 clear hb hg hst hE hV hVV h8
 go_enter Tryz.func67, Tryz.ntmps67
 go_wp2_with fail
 refine (HO.out _ (by (first|exact bwg|go_size))).mono ?_
 rintro e5 w5 ⟨rfl, hb5⟩
 have k8 : BlkR w5 (w.heap.size + 1 + 1) (.cells #[.slice none 0 0, .int .i64 0, .slice none 0 0, .int .i64 0, .int .i64 0, .int .i64 0, .int .i64 0, .int .i64 0, .int .i64 0] 100) := by
  show w5.heap[w.heap.size + 1 + 1]? = _
  rw [hb5.block _ (by simp)]
  have := heap_alloc_new ((w.alloc (Obj.cells #[.slice ab nb cb, .int .i64 st, .slice ag ng cg] 45)).alloc (Obj.cells #[.int .i64 vo, .int .i64 lo, .int .i64 hi, .int .i64 ci, .int .i64 br, .int .i64 re] 47)) (Obj.cells #[.slice none 0 0, .int .i64 0, .slice none 0 0, .int .i64 0, .int .i64 0, .int .i64 0, .int .i64 0, .int .i64 0, .int .i64 0] 100)
  simpa using this
 have HB5 := Lib.hid (show Below w.heap.size w w5 by (first|exact bwg|go_size))
 obtain ⟨X8, hX8⟩ : ∃ X, X = w.heap.size + 1 + 1 := ⟨_, rfl⟩
 rw [← hX8] at k8 ⊢
 have hx8 : w.heap.size ≤ X8 := by omega
 clear hb5 HO hX8
 go_wp2_with fail
 obtain ⟨w6, hW⟩ : ∃ w6, w6 = w5.alloc (Obj.cells #[.slice ab nb cb, .int .i64 st, .slice ag ng cg, .int .i64 vo, .int .i64 lo, .int .i64 hi, .int .i64 ci, .int .i64 br, .int .i64 re] 100) := ⟨_, rfl⟩
 rw [← hW]
 obtain ⟨X6, hX6⟩ : ∃ X, X = w5.heap.size := ⟨_, rfl⟩
 rw [← hX6]
 have hb6 : Below w5.heap.size w5 w6 := by rw [hW]; (first|exact bwg|go_size)
 have k6 : BlkR w6 X6 (.cells #[.slice ab nb cb, .int .i64 st, .slice ag ng cg, .int .i64 vo, .int .i64 lo, .int .i64 hi, .int .i64 ci, .int .i64 br, .int .i64 re] 100) := by show w6.heap[X6]? = _; rw [hW, hX6]; exact heap_alloc_new _ _
 have n86 : X8 ≠ X6 := by have := k8.lt; omega
 refine (HST.out _).mono ?_
 rintro e7 w7 ⟨rfl, hb7⟩
 have HB := Lib.hid (HB5.out.trans ((hb6.trans (hb7.mono hb6.size)).mono HB5.out.size))
 have K8 := Lib.hid ((k8.below hb6).below hb7)
 have K6 := Lib.hid (k6.below hb7)
 clear hW hX6 hb6 hb7 k6 k8 HB5 HST
 go_wp2_with fail
 refine (HLO.out _).mono ?_
 rintro e7 w7 ⟨rfl, rfl⟩
 go_wp2_with fail
 refine (t_first3 _ _ _ _ _ _ _ (by rfl) (by simp)).mono ?_
 rintro e8 w8 ⟨rfl, hw8⟩
 have hb8 : Below w7.heap.size w7 w8 := by rw [← hw8]; (first|exact bwg|go_size)
 have HB := bwt HB hb8
 have K8 := Lib.hid (K8.out.below hb8)
 have K6 := Lib.hid (K6.out.below hb8)
 clear hb8 hw8 HLO
 rw [← HE.out]
 obtain ⟨c6, c6_1, c6_2, c6_3, c6_4, c6_5, c6_6, c6_7, c6_8, l6⟩ := blkc9 K6.out
 by_cases h0 : E = 0
 ·subst h0
  obtain ⟨hm, _, ⟨n, rfl, hn⟩, _⟩ := HZ.out (by first | rfl | trivial)
  have HVN := Lib.hid (show V = curE m n by rw [HV.out, if_neg (by simp), Int.toNat_natCast])
  rw [HLB.out] at hn
  have HCN := Lib.hid (fun (W : World) (hbw : Below w8.heap.size w8 W) => HCE.out hm n hn W (HB.out.trans (hbw.mono HB.out.size)))
  generalize curE m n = CE at *
  clear hm hn HCE HV HZ
  go_wp2_with fail
  refine later_of_eq 4 (by kernel_rfl) (by kernel_rfl) ?_; simp only [List.take_succ_cons, List.take_zero, List.drop_succ_cons, List.drop_zero]; repeat go_big_quiet_step(with_reducible exact calls_later (HCN.out _ (Later.below _)))
  refine wpQuiet_nil ?_; intro w9 hb9
  have HB := bwt HB hb9
  have K8 := Lib.hid (K8.out.below hb9)
  clear hb9 c6 c6_1 c6_2 c6_3 c6_4 c6_5 c6_6 c6_7 c6_8 l6 K6
  have HKK := Lib.hid (show w9.heap[X8]? = _ from K8.out)
  obtain ⟨d8, d8_1, d8_2, d8_3, d8_4, d8_5, d8_6, d8_7, d8_8, _⟩ := blkc9 HKK.out
  have fz0 := blk_fz HKK.out 0
  have fz1 := blk_fz HKK.out 1
  have fz2 := blk_fz HKK.out 2
  have fz3 := blk_fz HKK.out 3
  have fz4 := blk_fz HKK.out 4
  have fz5 := blk_fz HKK.out 5
  have fz6 := blk_fz HKK.out 6
  have fz7 := blk_fz HKK.out 7
  have fz8 := blk_fz HKK.out 8
  have l8 := K8.out.lt
  go_wp2
  refine bodyPost_ret (v := .tuple #[.agg #[.slice ab nb cb, .int .i64 st, .slice ag ng cg, .int .i64 vo, .int .i64 lo, .int .i64 hi, .int .i64 ci, .int .i64 br, .int .i64 re], .int .i64 CE]) ?_ rfl ⟨by rw [HVN.out], below_put9 HB.out hx8 _ _ _ _ _ _ _ _ _⟩
  have kw := blk_put9 HKK.out (.slice ab nb cb) (.int .i64 st) (.slice ag ng cg) (.int .i64 vo) (.int .i64 lo) (.int .i64 hi) (.int .i64 ci) (.int .i64 br) (.int .i64 re)
  generalize World.setCell (World.setCell (World.setCell (World.setCell (World.setCell (World.setCell (World.setCell (World.setCell (World.setCell _ _ _) _ _) _ _) _ _) _ _) _ _) _ _) _ _) _ _ = wz at *
  obtain ⟨e8, e8_1, e8_2, e8_3, e8_4, e8_5, e8_6, e8_7, e8_8, _⟩ := blkc9 kw
  simp [results, Tryz.results67, go_sem, e8, e8_1, e8_2, e8_3, e8_4, e8_5, e8_6, e8_7, e8_8]
 ·have HVN := Lib.hid (show V = E by rw [HV.out, if_pos h0])
  have e1 := bne_iff_ne.2 h0
  clear h0 HCE HV HZ
  have HKK := Lib.hid (show w8.heap[X8]? = _ from K8.out)
  obtain ⟨d8, d8_1, d8_2, d8_3, d8_4, d8_5, d8_6, d8_7, d8_8, _⟩ := blkc9 HKK.out
  have fz0 := blk_fz HKK.out 0
  have fz1 := blk_fz HKK.out 1
  have fz2 := blk_fz HKK.out 2
  have fz3 := blk_fz HKK.out 3
  have fz4 := blk_fz HKK.out 4
  have fz5 := blk_fz HKK.out 5
  have fz6 := blk_fz HKK.out 6
  have fz7 := blk_fz HKK.out 7
  have fz8 := blk_fz HKK.out 8
  have l8 := K8.out.lt
  go_wp2
  refine bodyPost_ret (v := .tuple #[.agg #[.slice ab nb cb, .int .i64 st, .slice ag ng cg, .int .i64 vo, .int .i64 lo, .int .i64 hi, .int .i64 ci, .int .i64 br, .int .i64 re], .int .i64 E]) ?_ rfl ⟨by rw [HVN.out], below_put9 HB.out hx8 _ _ _ _ _ _ _ _ _⟩
  have kw := blk_put9 HKK.out (.slice ab nb cb) (.int .i64 st) (.slice ag ng cg) (.int .i64 vo) (.int .i64 lo) (.int .i64 hi) (.int .i64 ci) (.int .i64 br) (.int .i64 re)
  generalize World.setCell (World.setCell (World.setCell (World.setCell (World.setCell (World.setCell (World.setCell (World.setCell (World.setCell _ _ _) _ _) _ _) _ _) _ _) _ _) _ _) _ _) _ _ = wz at *
  obtain ⟨e8, e8_1, e8_2, e8_3, e8_4, e8_5, e8_6, e8_7, e8_8, _⟩ := blkc9 kw
  simp [results, Tryz.results67, go_sem, e8, e8_1, e8_2, e8_3, e8_4, e8_5, e8_6, e8_7, e8_8]
/- Going from state to state until one comes again: orbits, the last move, and when it rests. No program in sight. -/
theorem pigeon : ∀ (N T : Nat) (g : Nat → Nat), (∀ i, i < T → g i < N) → (∀ i j, i < j → j < T → g i ≠ g j) → T ≤ N
 | 0, T, g, h, _ => by
  rcases Nat.eq_zero_or_pos T with h0 | h0
  ·omega
  ·exact absurd (h 0 h0) (Nat.not_lt_zero _)
 | N + 1, T, g, h, hi => by
  by_cases hx : ∃ k, k < T ∧ g k = N
  ·obtain ⟨k, hk, hg⟩ := hx
   have := pigeon N (T - 1) (fun i => if i < k then g i else g (i + 1)) (fun i hiT => by
    show (if i < k then g i else g (i + 1)) < N
    split
    ·next hlt =>
     have h1 := h i (by omega)
     have h2 := hi i k hlt hk
     omega
    ·next hlt =>
     have h1 := h (i + 1) (by omega)
     have h2 := hi k (i + 1) (by omega) (by omega)
     omega) (fun i j hij hj => by
    show (if i < k then g i else g (i + 1)) ≠ (if j < k then g j else g (j + 1))
    split
    ·next h1 =>
     split
     ·exact hi i j hij (by omega)
     ·exact hi i (j + 1) (by omega) (by omega)
    ·next h1 =>
     rw [if_neg (by omega)]
     exact hi (i + 1) (j + 1) (by omega) (by omega))
   omega
  ·exact Nat.le_succ_of_le (pigeon N T g (fun i hiT => by
     have h1 := h i hiT
     have h2 : g i ≠ N := fun e => hx ⟨i, hiT, e⟩
     omega) hi)
section
variable {S : Type}
def itr (f : S → S) (s : S) : Nat → S
 | 0 => s
 | k + 1 => f (itr f s k)
theorem itr_inv {f : S → S} {p : S → Prop} (hp : ∀ s, p s → p (f s)) {s : S} (h : p s) : ∀ k, p (itr f s k)
 | 0 => h
 | k + 1 => hp _ (itr_inv hp h k)
def lastM (f : S → S) (mv : S → Bool) (s : S) : Nat → Nat
 | 0 => 0
 | k + 1 => if mv (itr f s k) = true then k + 1 else lastM f mv s k
theorem lastM_le (f : S → S) (mv : S → Bool) (s : S) : ∀ k, lastM f mv s k ≤ k
 | 0 => Nat.le_refl _
 | k + 1 => by
  unfold lastM
  split
  ·exact Nat.le_refl _
  ·exact Nat.le_succ_of_le (lastM_le f mv s k)
structure Rep (f : S → S) (s : S) (T fr : Nat) : Prop where
 lt : fr < T
 eq : itr f s fr = itr f s T
 inj : ∀ i j, i < j → j < T → itr f s i ≠ itr f s j
theorem Rep.uniq {f : S → S} {s : S} {T fr T' fr' : Nat} (h : Rep f s T fr) (h' : Rep f s T' fr') : T = T' ∧ fr = fr' := by
 have e : T = T' := by
  rcases Nat.lt_trichotomy T T' with h1 | h1 | h1
  ·exact absurd h.eq (h'.inj _ _ h.lt h1)
  ·exact h1
  ·exact absurd h'.eq (h.inj _ _ h'.lt h1)
 subst e
 refine ⟨rfl, ?_⟩
 rcases Nat.lt_trichotomy fr fr' with h1 | h1 | h1
 ·exact absurd (h.eq.trans h'.eq.symm) (h.inj _ _ h1 h'.lt)
 ·exact h1
 ·exact absurd (h'.eq.trans h.eq.symm) (h.inj _ _ h1 h.lt)
theorem rep_bound {f : S → S} {s : S} {N : Nat} {p : S → Prop} (code : S → Nat) (hp : ∀ s, p s → p (f s)) (hs : p s) (hc : ∀ s, p s → code s < N) (hi : ∀ a b, p a → p b → code a = code b → a = b)
    {T : Nat} (h : ∀ i j, i < j → j < T → itr f s i ≠ itr f s j) : T ≤ N :=
 pigeon N T (fun i => code (itr f s i)) (fun i _ => hc _ (itr_inv hp hs i)) (fun i j h1 h2 e => h i j h1 h2 (hi _ _ (itr_inv hp hs i) (itr_inv hp hs j) e))
end
end Go.Proofs.YtdjinmieogpgcaaGreat
/- All states that runs reach, in the order in which they are found, with a run to each; the first failure. In plain words. -/
namespace Go.Proofs.YtdjinmieogpgcaaGreat
set_option linter.unusedVariables false
def reaIn (o : List Nat) (s : Nat) (L : List Nat) : List Nat := L.foldl (fun o c => if trn s c ∈ o then o else o ++ [trn s c]) o
theorem reaIn_snoc (o : List Nat) (s : Nat) (L : List Nat) (c : Nat) : reaIn o s (L ++ [c]) = if trn s c ∈ reaIn o s L then reaIn o s L else reaIn o s L ++ [trn s c] := by unfold reaIn; rw [List.foldl_append]; rfl
theorem reaIn_yes {o : List Nat} {s : Nat} {L : List Nat} {c : Nat} (h : trn s c ∈ reaIn o s L) : reaIn o s (L ++ [c]) = reaIn o s L := by rw [reaIn_snoc, if_pos h]
theorem reaIn_no {o : List Nat} {s : Nat} {L : List Nat} {c : Nat} (h : trn s c ∉ reaIn o s L) : reaIn o s (L ++ [c]) = reaIn o s L ++ [trn s c] := by rw [reaIn_snoc, if_neg h]
def reaF (m : Mac) : Nat → List Nat
 | 0 => [m.st.toNat]
 | k + 1 => match (reaF m k)[k]? with
  | some s => reaIn (reaF m k) s (movL m s)
  | none => reaF m k
def faiIn (o : List (Nat × List Nat)) (s : Nat) (r : List Nat) (L : List Nat) : List (Nat × List Nat) := L.foldl (fun o c => if trn s c ∈ o.map Prod.fst then o else o ++ [(trn s c, r ++ [c])]) o
theorem faiIn_snoc (o : List (Nat × List Nat)) (s : Nat) (r L : List Nat) (c : Nat) : faiIn o s r (L ++ [c]) = if trn s c ∈ (faiIn o s r L).map Prod.fst then faiIn o s r L else faiIn o s r L ++ [(trn s c, r ++ [c])] := by unfold faiIn; rw [List.foldl_append]; rfl
theorem faiIn_yes {o : List (Nat × List Nat)} {s : Nat} {r L : List Nat} {c : Nat} (h : trn s c ∈ (faiIn o s r L).map Prod.fst) : faiIn o s r (L ++ [c]) = faiIn o s r L := by rw [faiIn_snoc, if_pos h]
theorem faiIn_no {o : List (Nat × List Nat)} {s : Nat} {r L : List Nat} {c : Nat} (h : trn s c ∉ (faiIn o s r L).map Prod.fst) : faiIn o s r (L ++ [c]) = faiIn o s r L ++ [(trn s c, r ++ [c])] := by rw [faiIn_snoc, if_neg h]
theorem faiIn_keys (o : List (Nat × List Nat)) (s : Nat) (r : List Nat) : ∀ L : List Nat, (faiIn o s r L).map Prod.fst = reaIn (o.map Prod.fst) s L := by
 refine snoc_ind rfl (fun L c ih => ?_)
 rw [faiIn_snoc, reaIn_snoc, ← ih]
 split
 ·rfl
 ·rw [List.map_append]; rfl
def faiF (m : Mac) : Nat → List (Nat × List Nat)
 | 0 => [(m.st.toNat, [])]
 | k + 1 => match (faiF m k)[k]? with
  | some p => faiIn (faiF m k) p.1 p.2 (movL m p.1)
  | none => faiF m k
theorem faiF_keys (m : Mac) : ∀ k, (faiF m k).map Prod.fst = reaF m k
 | 0 => rfl
 | k + 1 => by
  have ih := faiF_keys m k
  show (match (faiF m k)[k]? with | some p => faiIn (faiF m k) p.1 p.2 (movL m p.1) | none => faiF m k).map Prod.fst = (match (reaF m k)[k]? with | some s => reaIn (reaF m k) s (movL m s) | none => reaF m k)
  rw [← ih, List.getElem?_map]
  cases (faiF m k)[k]? with
  | none => rfl
  | some p => exact faiIn_keys ..
theorem movL_lt {m : Mac} {s c : Nat} (h : c ∈ movL m s) : c < m.br.length := by
 unfold movL at h
 exact List.mem_range.1 (List.mem_filter.1 h).1
theorem trn_lt' {n s i : Nat} (hn : n ≤ 6) (hs : s < 2 ^ n) (hi : i < n) : trn s i < 2 ^ n := turn_lt n (by omega) s hs i hi
structure Rea (m : Mac) (o : List Nat) : Prop where
 nd : o.Nodup
 lt : ∀ s ∈ o, s < 2 ^ m.br.length
 st : m.st.toNat ∈ o
theorem Rea.len {m : Mac} {o : List Nat} (h : Rea m o) (hm : MacV m) : o.length ≤ 64 := by
 have h3 := pigeon (2 ^ m.br.length) o.length (fun i => o.getD i 0) (fun i hi => by
  show o.getD i 0 < _
  rw [List.getD_eq_getElem?_getD, List.getElem?_eq_getElem hi]
  exact h.lt _ (List.getElem_mem hi)) (fun i j hij hj => by
  show o.getD i 0 ≠ o.getD j 0
  rw [List.getD_eq_getElem?_getD, List.getD_eq_getElem?_getD, List.getElem?_eq_getElem hj, List.getElem?_eq_getElem (show i < o.length by omega)]
  exact List.pairwise_iff_getElem.1 h.nd i j (by omega) hj hij)
 exact Nat.le_trans h3 (Nat.le_trans (Nat.pow_le_pow_right (by omega) hm.n1) (by decide))
theorem Rea.snoc {m : Mac} {o : List Nat} {t : Nat} (h : Rea m o) (ht : t ∉ o) (hl : t < 2 ^ m.br.length) : Rea m (o ++ [t]) :=
 ⟨List.nodup_append.2 ⟨h.nd, by simp, fun a ha b hb => by simp at hb; subst hb; rintro rfl; exact ht ha⟩, fun s hs => by
  rcases List.mem_append.1 hs with h1 | h1
  ·exact h.lt s h1
  ·simp at h1; subst h1; exact hl, List.mem_append_left _ h.st⟩
theorem Rea.inn {m : Mac} {o : List Nat} {s : Nat} (hm : MacV m) (h : Rea m o) (hs : s < 2 ^ m.br.length) : ∀ L : List Nat, (∀ c ∈ L, c < m.br.length) → Rea m (reaIn o s L) := by
 refine snoc_ind (fun _ => h) (fun L c ih hL => ?_)
 have ih := ih (fun c hc => hL c (List.mem_append_left _ hc))
 rw [reaIn_snoc]
 split
 ·exact ih
 ·rename_i hn
  exact ih.snoc hn (trn_lt' hm.n1 hs (hL c (by simp)))
theorem reaF_ok {m : Mac} (hm : MacV m) : ∀ k, Rea m (reaF m k)
 | 0 => by
  obtain ⟨s0, s1⟩ := hm.st
  refine ⟨by simp [reaF], fun s hs => ?_, by simp [reaF]⟩
  simp [reaF] at hs
  subst hs
  have : ((2 ^ m.br.length : Nat) : Int) = (2 : Int) ^ m.br.length := by push_cast; rfl
  omega
 | k + 1 => by
  have ih := reaF_ok hm k
  show Rea m (match (reaF m k)[k]? with | some s => reaIn (reaF m k) s (movL m s) | none => reaF m k)
  cases h : (reaF m k)[k]? with
  | none => exact ih
  | some s => exact Rea.inn hm ih (ih.lt s (List.mem_of_getElem? h)) _ (fun c hc => movL_lt hc)
theorem reaF_next {m : Mac} {k s : Nat} (h : (reaF m k)[k]? = some s) : reaF m (k + 1) = reaIn (reaF m k) s (movL m s) := by
 show (match (reaF m k)[k]? with | some s => reaIn (reaF m k) s (movL m s) | none => reaF m k) = _
 rw [h]
theorem faiF_next {m : Mac} {k : Nat} {p : Nat × List Nat} (h : (faiF m k)[k]? = some p) : faiF m (k + 1) = faiIn (faiF m k) p.1 p.2 (movL m p.1) := by
 show (match (faiF m k)[k]? with | some p => faiIn (faiF m k) p.1 p.2 (movL m p.1) | none => faiF m k) = _
 rw [h]
theorem reaF_stop {m : Mac} {k : Nat} (h : (reaF m k).length ≤ k) : ∀ j, reaF m (k + j) = reaF m k
 | 0 => rfl
 | j + 1 => by
  have ih := reaF_stop h j
  show (match (reaF m (k + j))[k + j]? with | some s => reaIn (reaF m (k + j)) s (movL m s) | none => reaF m (k + j)) = _
  rw [ih, List.getElem?_eq_none (by omega)]
def reaA (m : Mac) : List Nat := reaF m 64
theorem reaF_all {m : Mac} (hm : MacV m) {k : Nat} (h : (reaF m k).length ≤ k) (hk : k ≤ 64) : reaF m k = reaA m := by
 have := reaF_stop h (64 - k)
 rw [show k + (64 - k) = 64 by omega] at this
 exact this.symm
def reaS (m : Mac) : List Nat := (List.range (2 ^ m.br.length)).filter (fun s => decide (s ∈ reaA m))
def badC (m : Mac) (l : Lim) (s : Nat) : Option Nat := (movL m s).find? (fun c => decide (chgE m l s c ≠ 0))
def faiK (m : Mac) (l : Lim) (k : Nat) : Option (List Nat) :=
 match (faiF m k)[k]? with
 | some p => (badC m l p.1).map (fun c => p.2 ++ [c])
 | none => none
def faiFrom (m : Mac) (l : Lim) : Nat → Nat → Option (List Nat)
 | 0, _ => none
 | j + 1, k => match faiK m l k with
  | some r => some r
  | none => faiFrom m l j (k + 1)
def faiV (m : Mac) (l : Lim) : Option (List Nat) := if safE m l m.st.toNat ≠ 0 then some [] else faiFrom m l 64 0
theorem faiFrom_none {m : Mac} {l : Lim} {k : Nat} (h : (faiF m k).length ≤ k) : ∀ j i, faiFrom m l j (k + i) = none
 | 0, _ => rfl
 | j + 1, i => by
  have h1 : (reaF m k).length ≤ k := by rw [← faiF_keys, List.length_map]; exact h
  have h2 : (faiF m (k + i)).length ≤ k := by
   have := congrArg List.length (reaF_stop h1 i)
   rw [← faiF_keys, ← faiF_keys, List.length_map, List.length_map] at this
   omega
  show (match faiK m l (k + i) with | some r => some r | none => faiFrom m l j (k + i + 1)) = none
  have h3 : faiK m l (k + i) = none := by
   unfold faiK
   rw [List.getElem?_eq_none (by omega)]
  rw [h3]
  exact faiFrom_none h j (i + 1)
theorem faiFrom_step {m : Mac} {l : Lim} {k : Nat} (hk : k < 64) (h : faiK m l k = none) : faiFrom m l (64 - k) k = faiFrom m l (64 - (k + 1)) (k + 1) := by
 rw [show 64 - k = (64 - (k + 1)) + 1 by omega]
 show (match faiK m l k with | some r => some r | none => faiFrom m l (64 - (k + 1)) (k + 1)) = _
 rw [h]
theorem faiFrom_found {m : Mac} {l : Lim} {k : Nat} {r : List Nat} (hk : k < 64) (h : faiK m l k = some r) : faiFrom m l (64 - k) k = some r := by
 rw [show 64 - k = (64 - (k + 1)) + 1 by omega]
 show (match faiK m l k with | some r => some r | none => faiFrom m l (64 - (k + 1)) (k + 1)) = _
 rw [h]
theorem faiIn_run {o : List (Nat × List Nat)} {s : Nat} {r : List Nat} {q : Nat} (hr : r.length + 1 ≤ q) (ho : ∀ p ∈ o, p.2.length ≤ q) : ∀ L : List Nat, ∀ p ∈ faiIn o s r L, p.2.length ≤ q := by
 refine snoc_ind ho (fun L c ih => ?_)
 rw [faiIn_snoc]
 split
 ·exact ih
 ·intro p hp
  rcases List.mem_append.1 hp with h | h
  ·exact ih p h
  ·simp at h; subst h; simpa using hr
theorem faiF_run (m : Mac) : ∀ k, ∀ p ∈ faiF m k, p.2.length ≤ k
 | 0 => by simp [faiF]
 | k + 1 => by
  have ih := faiF_run m k
  show ∀ p ∈ (match (faiF m k)[k]? with | some p => faiIn (faiF m k) p.1 p.2 (movL m p.1) | none => faiF m k), p.2.length ≤ k + 1
  cases h : (faiF m k)[k]? with
  | none => exact fun p hp => Nat.le_succ_of_le (ih p hp)
  | some p => exact faiIn_run (by have := ih p (List.mem_of_getElem? h); omega) (fun q hq => Nat.le_succ_of_le (ih q hq)) _
/- The level of a series: the greatest size that enough pulses reach. No program in sight. -/
def srt (l : List Int) : List Int := l.mergeSort (fun x y => decide (x ≤ y))
theorem srt_perm (l : List Int) : (srt l).Perm l := List.mergeSort_perm l _
theorem srt_len (l : List Int) : (srt l).length = l.length := (srt_perm l).length_eq
theorem srt_sorted (l : List Int) : (srt l).Pairwise (fun x y => x ≤ y) := by
 have h := List.pairwise_mergeSort (le := fun x y : Int => decide (x ≤ y)) (fun a b c h1 h2 => by simp at *; omega) (fun a b => by simp; omega) l
 exact h.imp (fun h => by simpa using h)
/- The contracts of slices.Sort at integers, laid at this program (a tool of the kit wrote these rows). -/
open Go.Shelf Go.RowKit Go.Proofs
def sortInts_ren : Go.Shelf.Ren := ⟨fun | 189 => 80 | 125 => 114 | 257 => 113 | 128 => 139 | 129 => 140 | 294 => 130 | 295 => 131 | 296 => 132 | 297 => 133 | 298 => 134 | 299 => 135 | 216 => 136 | 300 => 137 | 301 => 138 | 328 => 153 | 329 => 154 | 330 => 155 | 331 => 156 | 332 => 157 | 215 => 158 | 343 => 170 | n => n, fun | 28 => 48 | 3 => 3 | 46 => 132 | 0 => 0 | 51 => 194 | 53 => 196 | 4 => 4 | 183 => 188 | 182 => 187 | 131 => 39 | 5 => 5 | 9 => 9 | 218 => 210 | 222 => 214 | 228 => 224 | 229 => 56 | n => n, fun | n => n⟩
theorem sortInts : Go.Proofs.Lays.n189 Tryz.prog sortInts_ren := {
 mixed := by kernel_rfl
 f125 := Tryz.func114.trans (congrArg some (by kernel_rfl))
 f128 := Tryz.func139.trans (congrArg some (by kernel_rfl))
 f129 := Tryz.func140.trans (congrArg some (by kernel_rfl))
 f189 := Tryz.func80.trans (congrArg some (by kernel_rfl))
 f215 := Tryz.func158.trans (congrArg some (by kernel_rfl))
 f216 := Tryz.func136.trans (congrArg some (by kernel_rfl))
 f257 := Tryz.func113.trans (congrArg some (by kernel_rfl))
 f294 := Tryz.func130.trans (congrArg some (by kernel_rfl))
 f295 := Tryz.func131.trans (congrArg some (by kernel_rfl))
 f296 := Tryz.func132.trans (congrArg some (by kernel_rfl))
 f297 := Tryz.func133.trans (congrArg some (by kernel_rfl))
 f298 := Tryz.func134.trans (congrArg some (by kernel_rfl))
 f299 := Tryz.func135.trans (congrArg some (by kernel_rfl))
 f300 := Tryz.func137.trans (congrArg some (by kernel_rfl))
 f301 := Tryz.func138.trans (congrArg some (by kernel_rfl))
 f328 := Tryz.func153.trans (congrArg some (by kernel_rfl))
 f329 := Tryz.func154.trans (congrArg some (by kernel_rfl))
 f330 := Tryz.func155.trans (congrArg some (by kernel_rfl))
 f331 := Tryz.func156.trans (congrArg some (by kernel_rfl))
 f332 := Tryz.func157.trans (congrArg some (by kernel_rfl))
 f343 := Tryz.func170.trans (congrArg some (by kernel_rfl))
 t0 := Tryz.underlying0
 a0 := Tryz.isAgg0
 z0 := Tryz.sizeOf0
 v0 := Tryz.zeroValue0
 t3 := Tryz.underlying3
 a3 := Tryz.isAgg3
 z3 := Tryz.sizeOf3
 v3 := Tryz.zeroValue3
 t4 := Tryz.underlying4
 a4 := Tryz.isAgg4
 z4 := Tryz.sizeOf4
 v4 := Tryz.zeroValue4
 t5 := Tryz.underlying5
 a5 := Tryz.isAgg5
 z5 := Tryz.sizeOf5
 v5 := Tryz.zeroValue5
 t9 := Tryz.underlying9
 a9 := Tryz.isAgg9
 z9 := Tryz.sizeOf9
 v9 := Tryz.zeroValue9
 t28 := Tryz.underlying48
 a28 := Tryz.isAgg48
 z28 := Tryz.sizeOf48
 v28 := Tryz.zeroValue48
 t46 := Tryz.underlying132
 a46 := Tryz.isAgg132
 z46 := Tryz.sizeOf132
 v46 := Tryz.zeroValue132
 t51 := Tryz.underlying194
 a51 := Tryz.isAgg194
 z51 := Tryz.sizeOf194
 v51 := Tryz.zeroValue194
 t53 := Tryz.underlying196
 a53 := Tryz.isAgg196
 z53 := Tryz.sizeOf196
 v53 := Tryz.zeroValue196
 t131 := Tryz.underlying39
 a131 := Tryz.isAgg39
 z131 := Tryz.sizeOf39
 v131 := Tryz.zeroValue39
 t182 := Tryz.underlying187
 a182 := Tryz.isAgg187
 z182 := Tryz.sizeOf187
 v182 := Tryz.zeroValue187
 t183 := Tryz.underlying188
 a183 := Tryz.isAgg188
 z183 := Tryz.sizeOf188
 v183 := Tryz.zeroValue188
 t218 := Tryz.underlying210
 a218 := Tryz.isAgg210
 z218 := Tryz.sizeOf210
 v218 := Tryz.zeroValue210
 t222 := Tryz.underlying214
 a222 := Tryz.isAgg214
 z222 := Tryz.sizeOf214
 v222 := Tryz.zeroValue214
 t228 := Tryz.underlying224
 a228 := Tryz.isAgg224
 z228 := Tryz.sizeOf224
 v228 := Tryz.zeroValue224
 t229 := Tryz.underlying56
 a229 := Tryz.isAgg56
 z229 := Tryz.sizeOf56
 v229 := Tryz.zeroValue56 }
/- slices.Sort at integers; the reached states ascending. -/
open Go.RowKit Go.Sort Go.Shelf
theorem below_sorted {α : Type} [Inhabited α] {enc : α → Value} {w : World} {B blk off q : Nat} {d : Array α} {os : Array Obj} (hB : B ≤ blk) (hlt : blk < w.heap.size) : Below B w (grow (putRow enc (Sort.ahead w q) blk off d) os) :=
 ⟨rfl, rfl, rfl, by simp [grow, putRow, mapBlock, Sort.ahead], fun b hb => by
  have h1 : b < w.heap.size := by omega
  have h2 : blk ≠ b := by omega
  simp [grow, putRow, mapBlock, Sort.ahead, Array.getElem?_append, h1, Array.getElem_modify, h2]⟩
theorem sortInts_any (w : World) (base n cv : Nat) (av : Option Addr) (L : List Int) (hO : w.ownsRow base 3 1 (.slice av n cv) n (icells L)) (hn : 0 < n) (hn2 : n ≤ 1000) :
    Calls Tryz.prog 80 #[.slice av n cv] w fun e w' => e = .returned (.tuple #[]) ∧ w'.ownsRow base 3 1 (.slice av n cv) n (icells (srt L)) ∧ Below base w w' ∧ w.grownBy w' (Value.slice av n cv).ownBlock := by
 have hlen : L.length = n := by have := hO.1; rw [icells_length] at this; omega
 subst hlen
 rcases hO.2 with ⟨h0, _⟩ | ⟨g, cap, cur, hv, hbase, hb, hc1, hc2, hc3, hc4⟩
 ·simp at h0; omega
 ·cases hv
  have hlt : g < w.heap.size := (Array.getElem?_eq_some_iff.1 hb).1
  have hH : Holds (Value.int .i64) w g 0 L.toArray := holds_of_blockI hb (by rw [Nat.mul_one] at hc4; exact hc4)
  refine (Any.slices_Sort_int sortInts g 0 cv L w hH hlt (by omega)).mono ?_
  rintro e w' ⟨rfl, q, os, rfl⟩
  exact ⟨rfl, ownsRow_sortedI (ss := L) (ts := srt L) (srt_len L) hbase hb hc1 hc2 hc3, below_sorted hbase hlt, grownBy_sortedI _⟩
theorem pair_eq : ∀ (a b : List Int), a.Perm b → a.Pairwise (fun x y => x ≤ y) → b.Pairwise (fun x y => x ≤ y) → a = b
 | [], b, h, _, _ => (List.nil_perm.1 h).symm
 | x :: a, [], h, _, _ => by simpa using h.length_eq
 | x :: a, y :: b, h, h1, h2 => by
  have hx : x ∈ y :: b := h.mem_iff.1 (by simp)
  have hy : y ∈ x :: a := h.mem_iff.2 (by simp)
  rw [List.pairwise_cons] at h1 h2
  have e : x = y := by
   have l1 : y ≤ x := by
    rcases List.mem_cons.1 hx with rfl | h3
    ·exact Int.le_refl _
    ·exact h2.1 _ h3
   have l2 : x ≤ y := by
    rcases List.mem_cons.1 hy with rfl | h3
    ·exact Int.le_refl _
    ·exact h1.1 _ h3
   omega
  subst e
  rw [pair_eq a b ((List.perm_cons x).1 h) h1.2 h2.2]
theorem srt_reaS {m : Mac} (hm : MacV m) : srt (nats (reaA m)) = nats (reaS m) := by
 have hr := reaF_ok hm 64
 have hp : (reaA m).Perm (reaS m) := by
  refine (List.perm_ext_iff_of_nodup hr.nd (List.Pairwise.filter _ List.nodup_range)).2 (fun s => ?_)
  show s ∈ reaA m ↔ s ∈ (List.range (2 ^ m.br.length)).filter (fun s => decide (s ∈ reaA m))
  rw [List.mem_filter, List.mem_range, decide_eq_true_eq]
  exact ⟨fun h => ⟨hr.lt s h, h⟩, fun h => h.2⟩
 refine pair_eq _ _ ((srt_perm _).trans (hp.map _)) (srt_sorted _) ?_
 unfold reaS nats
 rw [List.pairwise_map]
 exact (List.Pairwise.filter _ List.pairwise_lt_range).imp (fun h => by omega)
def knw (o : List Nat) : Array Value := ((List.range 64).map fun s => Value.bool (decide (s ∈ o))).toArray
theorem knw_get (o : List Nat) {s : Nat} (h : s < 64) : (knw o)[s]? = some (.bool (decide (s ∈ o))) := by
 unfold knw
 rw [List.getElem?_toArray, List.getElem?_map, List.getElem?_range h]
 rfl
theorem knw_set (o : List Nat) (s : Nat) : (knw o).setIfInBounds s (.bool true) = knw (o ++ [s]) := by
 apply Array.ext'
 unfold knw
 simp only [List.setIfInBounds_toArray]
 apply List.ext_getElem (by simp)
 intro i h1 h2
 rw [List.getElem_set]
 simp only [List.getElem_map, List.getElem_range]
 by_cases hi : s = i
 ·subst hi; simp
 ·simp [hi, Ne.symm hi]
end Go.Proofs.YtdjinmieogpgcaaGreat
