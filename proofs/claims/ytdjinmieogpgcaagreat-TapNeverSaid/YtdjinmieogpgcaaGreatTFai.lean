import Derived.Deep.LoopGhost
import Derived.Test.YtdjinmieogpgcaaGreatMTRea
import Derived.Test.YtdjinmieogpgcaaGreatTChg
/- The first failure: the program. -/
namespace Go.Proofs.YtdjinmieogpgcaaGreat
open Go.RowKit Go.Shelf
set_option linter.unusedVariables false
set_option linter.unusedSimpArgs false
attribute [local go_sem] Oper.semAt_some
def setV (s : Nat) : Value := .int .i64 (s : Int)
def setL (s : Nat) : Lit := .int .i64 (s : Int)
theorem setKeys : KeyG Tryz.prog 117 setV setL (fun s => s < 64) := ⟨Go.Maps.int_keyed Tryz.underlying117, fun a ha => Go.Maps.keyOf_int_mk Tryz.underlying117 (WalkArith.wf_i64 (by omega)), fun a _ => trivial, fun a b _ _ h => by
 unfold setL at h
 injection h with _ h
 omega⟩
abbrev RunM (w : World) (b n : Nat) (f : Nat → Option Value) : Prop := MapG Tryz.prog 117 setL (fun s => s < 64) w b n f
theorem zeroInts (w : World) : (zeroValue 48).run Tryz.prog w = .ok (.slice none 0 0) w := by kernel_rfl
theorem infoSet : (Tryz.prog.info? 117).map (fun i => (i.zero, i.size, i.bytes)) = some (some (.int .i64 0), 1, 8) := by kernel_rfl
set_option maxHeartbeats 1000000 in
set_option maxRecDepth 100000 in
theorem moves_any2 (m : Mac) (s : Nat) (ab ag : Option Addr) (nb cb ng cg : Nat) (w : World) (hg : GrR w ag ng m.gs) :
    Calls Tryz.prog 77 #[.agg #[.slice ab nb cb, .int .i64 m.st, .slice ag ng cg], .int .i64 (s : Int)] w fun e' w' => ∃ XM XS, e' = .returned (.func (.func 112) #[] #[.pointer (some ⟨XM, 0, none⟩), .pointer (some ⟨XS, 0, none⟩)]) ∧ Below w.heap.size w w' ∧ MovW m s XM XS ab ag nb cb ng cg w' ∧ w.heap.size ≤ XM ∧ w.heap.size ≤ XS := by
 have HG := Lib.hid hg
 clear hg
 go_enter Tryz.func77, Tryz.ntmps77
 go_wp2
 obtain ⟨w1, hW⟩ : ∃ w1, w1 = (w.alloc (Obj.cells #[.slice ab nb cb, .int .i64 m.st, .slice ag ng cg] 98)).alloc (Obj.cells #[.int .i64 (s : Int)] 117) := ⟨_, rfl⟩
 rw [← hW]
 have hb1 : Below w.heap.size w w1 := by rw [hW]; (first|exact bwg|go_size)
 have k1 : w1.heap[w.heap.size]? = some (.cells #[.slice ab nb cb, .int .i64 m.st, .slice ag ng cg] 98) := by rw [hW, Below.heap_alloc _ _ _ (by simp)]; exact heap_alloc_new _ _
 have k2 : w1.heap[w.heap.size + 1]? = some (.cells #[.int .i64 (s : Int)] 117) := by
  rw [hW]
  have := heap_alloc_new (w.alloc (Obj.cells #[.slice ab nb cb, .int .i64 m.st, .slice ag ng cg] 98)) (Obj.cells #[.int .i64 (s : Int)] 117)
  simpa using this
 refine bodyPost_ret (v := .func (.func 112) #[] #[.pointer (some ⟨w.heap.size, 0, none⟩), .pointer (some ⟨w.heap.size + 1, 0, none⟩)]) (by simp [results, Tryz.results77, go_sem]) rfl ⟨_, _, rfl, hb1, ⟨k1, k2, HG.out.below hb1⟩, Nat.le_refl _, by omega⟩
theorem MapG.ne {P : Program} {α : Type} {K : TypeId} {kl : α → Lit} {ok : α → Prop} {w : World} {b n k : Nat} {f : α → Option Value} {o : Obj} (h : MapG P K kl ok w b n f) (hk : w.heap[k]? = some o) (ho : ∀ es c, o ≠ .map es c) : k ≠ b := by
 obtain ⟨D, ⟨es, clock, hb, _⟩, _⟩ := h
 rintro rfl
 rw [hb] at hk
 simp only [Option.some.injEq] at hk
 exact ho _ _ hk.symm
def RunsO (wa : World) (BM : Nat) (F : List (Nat × List Nat)) (B : World) : Prop :=
 ∃ f, RunM B BM F.length f ∧ (∀ s, s < 64 → (f s).isSome = decide (s ∈ F.map Prod.fst)) ∧ ∀ p ∈ F, ∃ a c, f p.1 = some (.slice a p.2.length c) ∧ B.ownsRow wa.heap.size 3 1 (.slice a p.2.length c) p.2.length (icells (nats p.2))
theorem own_keepI {A B : World} {base n sz : Nat} {e : TypeId} {v : Value} {xs : List Value} (h : A.ownsRow base e sz v n xs) (hk : ∀ (k : Nat) (c : Array Value), A.heap[k]? = some (Obj.cells c e (0, 0)) → B.heap[k]? = some (Obj.cells c e (0, 0))) : B.ownsRow base e sz v n xs := by
 refine ⟨h.1, ?_⟩
 rcases h.2 with hn | ⟨g, cap, cur, rfl, hbase, hgg, rest⟩
 ·exact .inl hn
 ·exact .inr ⟨g, cap, cur, rfl, hbase, hk _ _ hgg, rest⟩
theorem RunsO.keep {wa A B : World} {BM : Nat} {F : List (Nat × List Nat)} (h : RunsO wa BM F A) (h1 : ∀ (k : Nat) (c : Array Value), A.heap[k]? = some (Obj.cells c 3 (0, 0)) → B.heap[k]? = some (Obj.cells c 3 (0, 0)))
    (h2 : ∀ o, A.heap[BM]? = some o → (∀ c t z, o ≠ .cells c t z) → (∀ r, o ≠ .loop r) → B.heap[BM]? = some o) : RunsO wa BM F B := by
 obtain ⟨f, g1, g2, g3⟩ := h
 exact ⟨f, g1.other h2, g2, fun p hp => by obtain ⟨a, c, q1, q2⟩ := g3 p hp; exact ⟨a, c, q1, own_keepI q2 h1⟩⟩
theorem RunsO.below {wa A B : World} {BM : Nat} {F : List (Nat × List Nat)} (h : RunsO wa BM F A) (hb : Below A.heap.size A B) : RunsO wa BM F B :=
 h.keep (fun k c hk => (hb.block k (Array.getElem?_eq_some_iff.1 hk).1).trans hk) (fun o hk _ _ => (hb.block BM (Array.getElem?_eq_some_iff.1 hk).1).trans hk)
theorem RunsO.put {wa A : World} {BM l : Nat} {F : List (Nat × List Nat)} {r r' : Loop} (h : RunsO wa BM F A) (hl : A.heap[l]? = some (.loop r)) : RunsO wa BM F (A.putObj l (.loop r')) :=
 h.keep (fun k c hk => (World.putObj_heap_other (by rintro rfl; rw [hl] at hk; cases hk)).trans hk)
  (fun o hk _ h2 => (World.putObj_heap_other (by rintro rfl; rw [hl] at hk; simp only [Option.some.injEq] at hk; exact h2 _ hk.symm)).trans hk)
theorem RunsO.set {wa A : World} {BM b i : Nat} {F : List (Nat × List Nat)} {t : TypeId} {c : Array Value} {v : Value} (h : RunsO wa BM F A) (hb : A.heap[b]? = some (.cells c t)) (ht : 3 ≠ t) : RunsO wa BM F (A.setCell ⟨b, i, none⟩ v) :=
 h.keep (fun k c hk => (heap_set_neI (by rintro rfl; rw [hb] at hk; simp only [Option.some.injEq, Obj.cells.injEq] at hk; exact ht hk.2.1.symm)).trans hk)
  (fun o hk h1 _ => (heap_set_neI (by rintro rfl; rw [hb] at hk; simp only [Option.some.injEq] at hk; exact h1 _ _ _ hk.symm)).trans hk)
structure FaiO (w wa : World) (Ds Ex : List Nat) (X2 X3 X4 BM X5 : Nat) (F : List (Nat × List Nat)) (k : Nat) (B : World) : Prop where
 sc : SameCells wa B
 sz : wa.heap.size ≤ B.heap.size
 bw : Below w.heap.size w B
 mks : MK w Ds B
 x2 : BlkR B X2 (.cells #[.slice none 0 0] 48)
 x3 : BlkR B X3 (.cells #[.bool false] 4)
 x4 : BlkR B X4 (.cells #[.map (some BM)] 137)
 mp : RunsO wa BM F B
 x5 : ∃ v, BlkR B X5 (.cells #[v] 118) ∧ QueR B wa.heap.size 117 v (F.length - k) (((F.map Prod.fst).drop k).map setV) ∧ ∀ b ∈ Ex, v.ownBlock ≠ some b
theorem FaiO.below {w wa A B : World} {Ds Ex : List Nat} {X2 X3 X4 BM X5 k : Nat} {F : List (Nat × List Nat)} (h : FaiO w wa Ds Ex X2 X3 X4 BM X5 F k A) (hb : Below A.heap.size A B) : FaiO w wa Ds Ex X2 X3 X4 BM X5 F k B := by
 obtain ⟨v, h5, h6, h7⟩ := h.x5
 exact ⟨h.sc.below hb, Nat.le_trans h.sz hb.size, h.bw.trans (hb.mono h.bw.size), h.mks.below hb, h.x2.below hb, h.x3.below hb, h.x4.below hb, h.mp.below hb, v, h5.below hb, h6.below hb, h7⟩
theorem FaiO.put {w wa A : World} {Ds Ex : List Nat} {X2 X3 X4 BM X5 k l : Nat} {F : List (Nat × List Nat)} {r r' : Loop} (h : FaiO w wa Ds Ex X2 X3 X4 BM X5 F k A) (hl : A.heap[l]? = some (.loop r)) (hw : w.heap.size ≤ l) : FaiO w wa Ds Ex X2 X3 X4 BM X5 F k (A.putObj l (.loop r')) := by
 obtain ⟨v, h5, h6, h7⟩ := h.x5
 exact ⟨h.sc.put hl, by rw [World.putObj_size]; exact h.sz, h.bw.trans (belowK_b (w := w) (Nat.le_refl _) A l _ _ hw hl rfl rfl), h.mks.put hl, h.x2.put hl, h.x3.put hl, h.x4.put hl, h.mp.put hl, v, h5.put hl, h6.put hl, h7⟩
theorem SlR.sameY {w w' : World} {a : Option Addr} {n sz : Nat} {xs : List Value} (h : SlR w a n sz xs) (hz : 0 < sz) (hs : SameCells w w') : SlR w' a n sz xs := by
 refine ⟨h.1, h.2.1, fun hn => ?_⟩
 obtain ⟨b, o, ha, hlt, hc⟩ := h.2.2 hn
 refine ⟨b, o, ha, ?_, fun i u hu => hs.cell (hc i u hu)⟩
 have hx : 0 < xs.length := by rw [h.1]; exact Nat.mul_pos hn hz
 obtain ⟨c, t, z, hb⟩ := blk_of_cell (hc 0 xs[0] (List.getElem?_eq_getElem hx))
 exact (Array.getElem?_eq_some_iff.1 (hs _ _ _ _ hb)).1
theorem find_mov {m : Mac} {s i : Nat} {p : Nat → Bool} (hi : mayB m s i = true) (hL : ∀ c ∈ movU m s i, p c = false) (hp : p i = true) : ∀ n, i < n → (movU m s n).find? p = some i
 | n + 1, hn => by
  rcases Nat.lt_or_ge i n with h | h
  ·have ih := find_mov hi hL hp n h
   cases hm : mayB m s n
   ·rw [movU_no hm]; exact ih
   ·rw [movU_yes hm, List.find?_append, ih]; rfl
  ·obtain rfl : i = n := by omega
   rw [movU_yes hi, List.find?_append, List.find?_eq_none.2 (fun x hx => by rw [hL x hx]; decide)]
   simp [hp]
theorem faiIn_sub {o : List (Nat × List Nat)} {s : Nat} {r : List Nat} {p : Nat × List Nat} (hp : p ∈ o) : ∀ L : List Nat, p ∈ faiIn o s r L := by
 refine snoc_ind hp (fun L c ih => ?_)
 rw [faiIn_snoc]
 split
 ·exact ih
 ·exact List.mem_append_left _ ih
theorem faiF_mono (m : Mac) (k : Nat) : (faiF m k).length ≤ (faiF m (k + 1)).length := by
 have := reaF_mono m k
 rw [← faiF_keys, ← faiF_keys, List.length_map, List.length_map] at this
 exact this
set_option maxHeartbeats 4000000 in
set_option maxRecDepth 100000 in
theorem failure_any (m : Mac) (l : Lim) (ab ag : Option Addr) (nb cb ng cg : Nat) (w : World) (hm : MacV m) (hl : limE l = 0) (hb : BrR w ab nb m.br) (hg : GrR w ag ng m.gs) :
    Calls Tryz.prog 49 #[.agg #[.slice ab nb cb, .int .i64 m.st, .slice ag ng cg, .int .i64 l.volt, .int .i64 l.lo, .int .i64 l.hi, .int .i64 l.circ, .int .i64 l.brk, .int .i64 l.ret]] w fun e' w' => ∃ a' n' c', e' = .returned (.tuple #[.slice a' n' c', .bool (faiV m l).isSome]) ∧ Below w.heap.size w w' ∧ IntsR w' a' n' (nats ((faiV m l).getD [])) ∧ n' ≤ c' := by
 have hnb := hb.len
 have hn6 : nb ≤ 6 := by rw [← hnb]; exact hm.n1
 have hp64 : 2 ^ nb ≤ 64 := Nat.le_trans (Nat.pow_le_pow_right (by omega) hn6) (by decide)
 obtain ⟨sn, hsn⟩ : ∃ n : Nat, m.st = n := ⟨m.st.toNat, by have := hm.st.1; omega⟩
 have hsl : sn < 2 ^ nb := by
  have h1 := hm.st.2
  rw [hsn, hnb] at h1
  have : ((2 ^ nb : Nat) : Int) = (2 : Int) ^ nb := by push_cast; rfl
  omega
 have hs64 : sn < 64 := by omega
 have HM := Lib.hid (And.intro hm hnb)
 have HGR := Lib.hid (And.intro hb hg)
 have HRO := Lib.hid (reaF_ok hm)
 have HP64 := Lib.hid hp64
 have HMV := Lib.hid (fun (s : Nat) (W : World) (h : GrR W ag ng m.gs) => moves_any2 m s ab ag nb cb ng cg W h)
 have HTU := Lib.hid (fun (s i : Nat) (W : World) (hs : s < 64) (hi : i < 6) => show Calls Tryz.prog 79 #[.int .i64 (s : Int), .int .i64 (i : Int)] W (fun e' w' => e' = .returned (.int .i64 ((trn s i : Nat) : Int)) ∧ W = w') from turned_any s i W hs hi)
 have HSF := Lib.hid (fun (s : Nat) (W : World) (hs : s < 2 ^ nb) (hbw : Below w.heap.size w W) => safe_any m l s ab ag nb cb ng cg W hm hl (hb.below hbw) hs)
 have HCG := Lib.hid (fun (s i : Nat) (W : World) (hs : s < 2 ^ nb) (hi : i < nb) (h1 : BrR W ab nb m.br) (h2 : GrR W ag ng m.gs) => change_any m l s i ab ag nb cb ng cg W hm hl h1 h2 hs hi)
 rw [hsn] at HMV HSF HCG ⊢
 have hF0 : faiF m 0 = [(sn, [])] := by show [(m.st.toNat, [])] = _; rw [hsn]; rfl
 have hFV : faiV m l = if safE m l sn ≠ 0 then some [] else faiFrom m l 64 0 := by unfold faiV; rw [hsn]; rfl
 obtain ⟨V, hV⟩ : ∃ V, V = faiV m l := ⟨_, rfl⟩
 rw [← hV] at hFV ⊢
 have HFV := Lib.hid hFV
 have HF0 := Lib.hid hF0
 have HST := Lib.hid hsn
 clear hm hl hb hg hnb hsn hF0 hFV hV hp64
 obtain ⟨vo, lo, hi, ci, br, re⟩ := l
 simp only at HSF HCG ⊢
 refine (callsIn_wide (n := 3)).1 ?_
 refine callsIn_of_wp_marks Tryz.func49 rfl trivial ?_ rfl
 simp only [Tryz.ntmps49, List.size_toArray, List.length_cons, List.length_nil, Nat.reduceAdd, Nat.reduceSub, Array.replicate_succ, Array.replicate_zero, List.push_toArray, List.append_toArray, List.nil_append, List.cons_append]
 refine (wpIn_wide (n := 3)).2 ?_
 go_wp2_with fail
 obtain ⟨wa, hWa⟩ : ∃ wa, wa = w.alloc (Obj.cells #[.slice ab nb cb, .int .i64 (sn : Int), .slice ag ng cg, .int .i64 vo, .int .i64 lo, .int .i64 hi, .int .i64 ci, .int .i64 br, .int .i64 re] 100) := ⟨_, rfl⟩
 rw [← hWa]
 have hba : Below w.heap.size w wa := by rw [hWa]; (first|exact bwg|go_size)
 have k1 : BlkR wa w.heap.size (.cells #[.slice ab nb cb, .int .i64 (sn : Int), .slice ag ng cg, .int .i64 vo, .int .i64 lo, .int .i64 hi, .int .i64 ci, .int .i64 br, .int .i64 re] 100) := by show wa.heap[w.heap.size]? = _; rw [hWa]; exact heap_alloc_new _ _
 have hza : wa.heap.size = w.heap.size + 1 := by rw [hWa]; simp
 obtain ⟨w2, hW2⟩ : ∃ w2, w2 = (wa.alloc (Obj.cells #[.slice none 0 0] 48)).alloc (Obj.cells #[.bool false] 4) := ⟨_, rfl⟩
 rw [← hW2]
 have hb2 : Below wa.heap.size wa w2 := by rw [hW2]; (first|exact bwg|go_size)
 obtain ⟨X1, hX1⟩ : ∃ X, X = w.heap.size := ⟨_, rfl⟩
 obtain ⟨X2, hX2⟩ : ∃ X, X = w.heap.size + 1 := ⟨_, rfl⟩
 obtain ⟨X3, hX3⟩ : ∃ X, X = w.heap.size + 1 + 1 := ⟨_, rfl⟩
 rw [← hX1] at k1
 simp only [← hX3]
 simp only [← hX2]
 simp only [← hX1]
 have z2 : wa.heap.size = X2 := by omega
 have r2 : BlkR w2 X2 (.cells #[.slice none 0 0] 48) := by
  show w2.heap[X2]? = _
  rw [hW2, ← z2, Below.heap_alloc _ _ _ (by simp)]
  exact heap_alloc_new _ _
 have r3 : BlkR w2 X3 (.cells #[.bool false] 4) := by
  show w2.heap[X3]? = _
  have := heap_alloc_new (wa.alloc (Obj.cells #[.slice none 0 0] 48)) (Obj.cells #[.bool false] 4)
  rw [← hW2, World.size_alloc] at this
  rw [show X3 = wa.heap.size + 1 by omega]
  exact this
 have K1 := Lib.hid k1
 have HBA := Lib.hid hba
 have HB2 := Lib.hid (hba.trans (hb2.mono hba.size))
 have x12 : X1 < X2 := by omega
 have x23 : X2 < X3 := by omega
 have hw1 : w.heap.size ≤ X1 := by omega
 have hwa : wa.heap.size ≤ X2 := by omega
 have k12 := k1.below hb2
 have HSC := Lib.hid ((SameCells.refl wa).below hb2)
 have HSZ := Lib.hid hb2.size
 obtain ⟨c1, c1_1, c1_2, c1_3, c1_4, c1_5, c1_6, c1_7, c1_8, l1⟩ := blkc9 k12
 clear hWa hba k1 hza hW2 hb2 hX1 hX2 hX3 z2 k12
 refine (HSF.out sn w2 hsl HB2.out).mono ?_
 rintro e3 w3 ⟨rfl, hb3⟩
 have r2 := r2.below hb3
 have r3 := r3.below hb3
 have HB3 := bwt HB2 hb3
 have HSC := Lib.hid (HSC.out.below hb3)
 have HSZ := Lib.hid (Nat.le_trans HSZ.out hb3.size)
 have k13 := HSC.out _ _ _ _ K1.out
 clear hb3 HB2 c1 c1_1 c1_2 c1_3 c1_4 c1_5 c1_6 c1_7 c1_8 l1
 generalize hSE : safE m ⟨vo, lo, hi, ci, br, re⟩ sn = SE at *
 by_cases h0 : SE = 0
 ·subst h0
  have HFV2 := Lib.hid (HFV.out.trans (if_neg (by simp)))
  obtain ⟨c1, c1_1, c1_2, c1_3, c1_4, c1_5, c1_6, c1_7, c1_8, l1⟩ := blkc9 k13
  have hm0 := MapG.made (P := Tryz.prog) (K := 117) (kl := setL) (ok := fun s => s < 64) w3
  have hm1 := hm0.below (w' := (w3.alloc (.map #[] 0)).alloc (.cells #[] 3)) (by (first|exact bwg|go_size))
  obtain ⟨wm, hrun, hmap, hgrow, hnc⟩ := hm1.store setKeys Tryz.underlying137 (by unfold maxLen; omega) (a := sn) (by omega) (.slice (some ⟨w3.heap.size + 1, 0, none⟩) 0 0)
  have k1m : BlkR wm X1 _ := (hgrow.block X1 (by have := blk_lt k13; simp; omega) (by have := blk_lt k13; simp only [ne_eq, Option.some.injEq]; omega)).trans (blk_below k13 (show Below w3.heap.size w3 ((w3.alloc (.map #[] 0)).alloc (.cells #[] 3)) by (first|exact bwg|go_size)))
  obtain ⟨d1, d1_1, d1_2, d1_3, d1_4, d1_5, d1_6, d1_7, d1_8, l1m⟩ := blkc9 k1m
  have hmm := @run_makeMap Tryz.prog
  unfold setV at hrun
  have HR2 := Lib.hid r2
  have HR3 := Lib.hid r3
  have HMAP := Lib.hid (And.intro hmap (And.intro hgrow hnc))
  clear hm0 hm1 hmap hgrow hnc k13 r2 r3 hSE HFV
  go_wp2_with fail
  obtain ⟨BM, hBM⟩ : ∃ X, X = w3.heap.size := ⟨_, rfl⟩
  obtain ⟨g1, hg1⟩ : ∃ X, X = w3.heap.size + 1 := ⟨_, rfl⟩
  obtain ⟨X4, hX4⟩ : ∃ X, X = wm.heap.size := ⟨_, rfl⟩
  obtain ⟨g2, hg2⟩ : ∃ X, X = wm.heap.size + 1 := ⟨_, rfl⟩
  obtain ⟨X5, hX5⟩ : ∃ X, X = wm.heap.size + 1 + 1 := ⟨_, rfl⟩
  simp only [← hX5]
  simp only [← hg2]
  simp only [← hX4]
  simp only [← hg1]
  simp only [← hBM]
  obtain ⟨w4, hW4⟩ : ∃ w4, w4 = ((wm.alloc (Obj.cells #[.map (some BM)] 137)).alloc (Obj.cells #[.int .i64 (sn : Int)] 117)).alloc (Obj.cells #[.slice (some ⟨g2, 0, none⟩) 1 1] 118) := ⟨_, rfl⟩
  rw [← hW4]
  obtain ⟨hmap, hgrow, hnc⟩ := HMAP.out
  have hb3m : Below w3.heap.size w3 wm := (show Below w3.heap.size w3 ((w3.alloc (.map #[] 0)).alloc (.cells #[] 3)) by (first|exact bwg|go_size)).grown hgrow (by simp; omega) (fun k hk => by simp only [Option.some.injEq] at hk; omega)
  have hb4 : Below wm.heap.size wm w4 := by rw [hW4]; (first|exact bwg|go_size)
  have hb34 : Below w3.heap.size w3 w4 := hb3m.trans (hb4.mono hb3m.size)
  have k4 : BlkR w4 X4 (.cells #[.map (some BM)] 137) := by
   show w4.heap[X4]? = _
   rw [hW4, hX4, Below.heap_alloc _ _ _ (by simp; omega), Below.heap_alloc _ _ _ (by simp)]
   exact heap_alloc_new _ _
  have k5 : BlkR w4 X5 (.cells #[.slice (some ⟨g2, 0, none⟩) 1 1] 118) := by
   show w4.heap[X5]? = _
   have := heap_alloc_new ((wm.alloc (Obj.cells #[.map (some BM)] 137)).alloc (Obj.cells #[.int .i64 (sn : Int)] 117)) (Obj.cells #[.slice (some ⟨g2, 0, none⟩) 1 1] 118)
   rw [← hW4] at this
   simpa [hX5] using this
  have hwam : wa.heap.size ≤ wm.heap.size := Nat.le_trans HSZ.out hb3m.size
  have hQ0 : QueR w4 wa.heap.size 117 (.slice (some ⟨g2, 0, none⟩) 1 1) 1 [.int .i64 (sn : Int)] := by
   have : w4.ownsRow wa.heap.size 117 1 (.slice (some ⟨g2, 0, none⟩) 1 1) 1 [.int .i64 (sn : Int)] := by
    rw [hW4]
    exact (owns_lit (w0 := wm.alloc (Obj.cells #[.map (some BM)] 137)) (base := wa.heap.size) (n := 1) (sz := 1) (cs := #[.int .i64 (sn : Int)]) (by simp; omega) (by omega) (by omega) rfl).alloc _
   exact QueR.of_own this
  have hown1 : w4.ownsRow wa.heap.size 3 1 (.slice (some ⟨g1, 0, none⟩) 0 0) 0 (icells (nats [])) := by
   have e1 := World.ownsRow_made (w3.alloc (.map #[] 0)) #[] 0 (base := wa.heap.size) (e := 3) (size := 1) (by simp; have := HSZ.out; omega) (by simp [maxLen]) rfl
   rw [World.size_alloc, ← hg1] at e1
   exact owns_below (e1.kept hgrow (.inr (by simp only [Value.ownBlock, ne_eq, Option.some.injEq]; omega))) hb4 (fun z hz => (e1.kept hgrow (.inr (by simp only [Value.ownBlock, ne_eq, Option.some.injEq]; omega))).lt z hz |>.2)
  have hRN : RunsO wa BM (faiF m 0) w4 := by
   rw [HF0.out]
   rw [← hBM] at hmap
   refine ⟨_, hmap.below hb4, fun s hs => ?_, fun p hp => ?_⟩
   ·show (if s = sn then some _ else none).isSome = _
    by_cases h : s = sn
    ·simp [h]
    ·simp [h]
   ·simp only [List.mem_singleton] at hp
    subst hp
    refine ⟨some ⟨g1, 0, none⟩, 0, ?_, hown1⟩
    show (if sn = sn then some _ else none) = _
    rw [if_pos rfl, hg1, ← hBM]; rfl
  have hFO : FaiO w wa [] [] X2 X3 X4 BM X5 (faiF m 0) 0 w4 := ⟨HSC.out.below hb34, Nat.le_trans HSZ.out hb34.size, HB3.out.trans (hb34.mono HB3.out.size), ⟨List.nodup_nil, fun D hD => by simp at hD⟩, HR2.out.below hb34, HR3.out.below hb34, k4, hRN, _, k5, by rw [HF0.out]; exact hQ0, fun b hb => by cases hb⟩
  have hX4w : wa.heap.size ≤ X4 := by omega
  have hx45 : X4 < X5 := by omega
  have hx35 : X3 < X4 := by have := HR3.out.lt; have := hb3m.size; omega
  have hx5w : w.heap.size ≤ X5 := by have := HBA.out.size; omega
  have hBMw : w.heap.size ≤ BM := by rw [hBM]; exact HB3.out.size
  clear hW4 hb4 hb34 hb3m k4 k5 hQ0 hown1 hRN hX4 hX5 hg1 hg2 hBM hwam hmap hgrow hnc d1 d1_1 d1_2 d1_3 d1_4 d1_5 d1_6 d1_7 d1_8 c1 c1_1 c1_2 c1_3 c1_4 c1_5 c1_6 c1_7 c1_8 l1 l1m k1m HMAP HR2 HR3 HSC HSZ HB3 hrun hmm
  obtain ⟨I, hI⟩ : ∃ I : Nat → Act → World → Prop, I = fun N A W => ∃ (k : Nat) (Ds : List Nat) (X5 : Nat) (u6 u7 u8 u9 u10 u11 u31 u32 u33 u34 u35 u36 u37 u38 u39 u40 u41 u42 u43 u44 u45 u46 u47 u48 u49 u50 u51 u52 u53 u54 u55 u56 u57 u58 u59 u60 u61 u62 u63 u64 u65 u66 u67 u68 u69 u70 u71 u72 u73 u74 u75 : Value), A = { tmps := #[.agg #[.slice ab nb cb, .int .i64 (sn : Int), .slice ag ng cg, .int .i64 vo, .int .i64 lo, .int .i64 hi, .int .i64 ci, .int .i64 br, .int .i64 re], .pointer (some ⟨X1, 0, none⟩), .pointer (some ⟨X2, 0, none⟩), .pointer (some ⟨X3, 0, none⟩), .pointer (some ⟨X4, 0, none⟩), .pointer (some ⟨X5, 0, none⟩), u6, u7, u8, u9, u10, u11, .agg #[.slice ab nb cb, .int .i64 (sn : Int), .slice ag ng cg, .int .i64 vo, .int .i64 lo, .int .i64 hi, .int .i64 ci, .int .i64 br, .int .i64 re], .pointer (some ⟨X1, 0, none⟩), .pointer (some ⟨X1, 0, none⟩), .pointer (some ⟨X1, 1, none⟩), .int .i64 (sn : Int), .int .i64 0, .bool false, .map (some BM), .pointer (some ⟨X1, 0, none⟩), .pointer (some ⟨X1, 0, none⟩), .pointer (some ⟨X1, 1, none⟩), .int .i64 (sn : Int), .slice (some ⟨g1, 0, none⟩) 0 0, .map (some BM), .pointer (some ⟨X1, 0, none⟩), .pointer (some ⟨X1, 0, none⟩), .pointer (some ⟨X1, 1, none⟩), .int .i64 (sn : Int), .slice (some ⟨g2, 0, none⟩) 1 1, u31, u32, u33, u34, u35, u36, u37, u38, u39, u40, u41, u42, u43, u44, u45, u46, u47, u48, u49, u50, u51, u52, u53, u54, u55, u56, u57, u58, u59, u60, u61, u62, u63, u64, u65, u66, u67, u68, u69, u70, u71, u72, u73, u74, u75], defers := Ds.map mark } ∧ N = 65 - k ∧ k ≤ 64 ∧ k ≤ (faiF m k).length ∧ w.heap.size ≤ X5 ∧ wa.heap.size ≤ X5 ∧ X4 < X5 ∧ FaiO w wa Ds [] X2 X3 X4 BM X5 (faiF m k) k W ∧ V = faiFrom m ⟨vo, lo, hi, ci, br, re⟩ (64 - k) k := ⟨_, rfl⟩
  dsimp only at hI
  have HI := Lib.hid hI
  clear hI
  refine wp_loop_ghost I 65 ?_ ?_
  ·rw [HI.out]
   exact ⟨0, [], X5, _, _, _, _, _, _, _, _, _, _, _, _, _, _, _, _, _, _, _, _, _, _, _, _, _, _, _, _, _, _, _, _, _, _, _, _, _, _, _, _, _, _, _, _, _, _, _, _, _, _, _, rfl, rfl, by omega, Nat.zero_le _, hx5w, by omega, hx45, hFO, HFV2.out⟩
  ·intro N A W hIA
   rw [HI.out] at hIA
   clear hFO hx45 hx5w HFV2
   obtain ⟨k, Ds, X5, u6, u7, u8, u9, u10, u11, u31, u32, u33, u34, u35, u36, u37, u38, u39, u40, u41, u42, u43, u44, u45, u46, u47, u48, u49, u50, u51, u52, u53, u54, u55, u56, u57, u58, u59, u60, u61, u62, u63, u64, u65, u66, u67, u68, u69, u70, u71, u72, u73, u74, u75, rfl, rfl, hk64, hkl, hx5w, hx5a, hx45, hFO, hVk⟩ := hIA
   obtain ⟨v5, h5, h6, _⟩ := hFO.x5
   have hkx := hFO.sc _ _ _ _ K1.out
   have HFO := Lib.hid hFO
   have HVK := Lib.hid hVk
   have c5 := blk_cell h5 (i := 0) rfl
   have l5 := h5.lt
   have hqn := h6.1
   rw [List.length_map, List.length_drop, List.length_map] at hqn
   clear hFO hVk
   rcases Nat.lt_or_ge k (faiF m k).length with hlt | hge
   ·obtain ⟨p, hp⟩ : ∃ p, (faiF m k)[k]? = some p := ⟨_, List.getElem?_eq_getElem hlt⟩
    have hklr : (reaF m k).length = (faiF m k).length := by rw [← faiF_keys, List.length_map]
    have hk63 : k < 64 := Nat.lt_of_lt_of_le (by rw [hklr]; exact hlt) ((HRO.out k).len HM.out.1)
    obtain ⟨s, r⟩ := p
    have hps : (reaF m k)[k]? = some s := by rw [← faiF_keys, List.getElem?_map, hp]; rfl
    have hslt : s < 2 ^ nb := by rw [← HM.out.2]; exact (HRO.out k).lt s (List.mem_of_getElem? hps)
    have hrl : r.length ≤ k := faiF_run m k _ (List.mem_of_getElem? hp)
    have hdr : ((faiF m k).map Prod.fst).drop k = s :: ((faiF m k).map Prod.fst).drop (k + 1) := by
     rw [faiF_keys, List.drop_eq_getElem_cons (by rw [hklr]; exact hlt)]
     congr 1
     have := List.getElem?_eq_getElem (l := reaF m k) (i := k) (by rw [hklr]; exact hlt)
     rw [hps] at this
     injection this with this
     exact this.symm
    have HFOk := HFO
    obtain ⟨nq, hnq⟩ : ∃ nq, (faiF m k).length - k = nq + 1 := ⟨(faiF m k).length - k - 1, by omega⟩
    rw [hnq, hdr, List.map_cons] at h6
    obtain ⟨gq, oq, cq, hv5, hnc, hgl, hcell, _⟩ := h6.cell
    subst hv5
    have HXV := Lib.hid (show ∃ v, BlkR W X5 (.cells #[v] 118) ∧ QueR W wa.heap.size 117 v ((faiF m k).length - k) ((((faiF m k).map Prod.fst).drop k).map setV) ∧ ∀ b, v.ownBlock = some b → b < W.heap.size from ⟨_, h5, by rw [hnq, hdr, List.map_cons]; exact h6, fun b hb => by simp only [Value.ownBlock, Option.some.injEq] at hb; omega⟩)
    unfold setV at hcell
    have HPS := Lib.hid (And.intro hp (And.intro hps (And.intro hslt (And.intro hrl (And.intro hk63 (And.intro hlt hnq))))))
    obtain ⟨c1, c1_1, c1_2, c1_3, c1_4, c1_5, c1_6, c1_7, c1_8, l1⟩ := blkc9 hkx
    have q1 : (0 : Int) < ((nq + 1 : Nat) : Int) := by omega
    clear hp hps hslt hrl hk63 hdr hlt hnq hqn h5 h6 hkx hklr hkl hnc
    go_wp2_with fail
    obtain ⟨w5, hW5⟩ : ∃ w5, w5 = W.alloc (Obj.cells #[.int .i64 (s : Int)] 117) := ⟨_, rfl⟩
    rw [← hW5]
    have hb5 : Below W.heap.size W w5 := by rw [hW5]; (first|exact bwg|go_size)
    have k6 : BlkR w5 W.heap.size (.cells #[.int .i64 (s : Int)] 117) := by show w5.heap[W.heap.size]? = _; rw [hW5]; exact heap_alloc_new _ _
    obtain ⟨X6, hX6⟩ : ∃ X, X = W.heap.size := ⟨_, rfl⟩
    rw [← hX6] at k6
    simp only [← hX6]
    have x56 : X5 < X6 := by rw [hX6]; exact l5
    have hb5w := hb5
    have hX6w : W.heap.size ≤ X6 := by omega
    have h5z := hb5.size
    have hR5 := HFOk.out.below hb5
    have hg5 : GrR w5 ag ng m.gs := ER.same (HGR.out.2.below HBA.out) hR5.sc hR5.sz
    clear hW5 hX6 hb5 c1 c1_1 c1_2 c1_3 c1_4 c1_5 c1_6 c1_7 c1_8 l1 c5 l5 hcell hgl HFO HFOk
    refine (HMV.out s w5 hg5).mono ?_
    rintro e6 w6 ⟨XM, XS, rfl, hb6, hmw, hXM, hXS⟩
    have hb6w := hb5w.trans (hb6.mono hb5w.size)
    have hR6 := hR5.below hb6
    have k6 := k6.below hb6
    have kM : BlkR w6 XM (.cells #[.slice ab nb cb, .int .i64 m.st, .slice ag ng cg] 98) := hmw.1
    have kS : BlkR w6 XS (.cells #[.int .i64 (s : Int)] 117) := hmw.2.1
    clear hR5 hg5 hb6 hmw hb5w
    go_wp2_with fail
    refine (wpIn_wide (n := 3)).1 ?_
    refine range_two (gf := 112) (fst := #[]) (lst := #[.pointer (some ⟨XM, 0, none⟩), .pointer (some ⟨XS, 0, none⟩)]) rfl cf_moves ?_
    intro rec hst hpe hpa htm has hbo
    obtain ⟨RD, hRD⟩ : ∃ RD : Loop, RD = { rec with state := .done, pending := some .ret } := ⟨_, rfl⟩
    have HRD := Lib.hid hRD
    clear hRD
    have hL1 : ((w6.alloc (.deferred (some []))).alloc (.loop rec)).heap[w6.heap.size + 1]? = some (.loop rec) := by
     have := World.alloc_heap_new (w6.alloc (.deferred (some []))) (.loop rec); rwa [World.size_alloc] at this
    have hK1 : ((w6.alloc (.deferred (some []))).alloc (.loop rec)).heap[w6.heap.size]? = some (.deferred (some [])) := (Below.heap_alloc _ _ _ (by simp)).trans (World.alloc_heap_new w6 _)
    have hb9 : Below w6.heap.size w6 ((w6.alloc (.deferred (some []))).alloc (.loop rec)) := by (first|exact bwg|go_size)
    generalize (w6.alloc (.deferred (some []))).alloc (.loop rec) = w9 at *
    obtain ⟨lr, hlr⟩ : ∃ lr, lr = w6.heap.size + 1 := ⟨_, rfl⟩
    obtain ⟨D, hD⟩ : ∃ D, D = w6.heap.size := ⟨_, rfl⟩
    rw [← hlr] at hL1
    rw [← hD] at hK1
    simp only [← hlr]
    simp only [← hD]
    have x6D : X6 < D := by rw [hD]; exact k6.lt
    have dl : D < lr := by omega
    have hwD : w.heap.size ≤ D := by omega
    have hnD : D ∉ Ds := fun h => by have := (Array.getElem?_eq_some_iff.1 (hR6.mks.2 D h).2).1; omega
    have hR9' := hR6.below hb9
    have hR9 : FaiO w wa Ds [X6, XS] X2 X3 X4 BM X5 (faiF m k) k w9 := by
     obtain ⟨v, q5, q6, _⟩ := hR9'.x5
     obtain ⟨v', q5', q6', hvb⟩ := HXV.out
     refine ⟨hR9'.sc, hR9'.sz, hR9'.bw, hR9'.mks, hR9'.x2, hR9'.x3, hR9'.x4, hR9'.mp, v', (q5'.below (hb6w.trans (hb9.mono hb6w.size))), q6'.below (hb6w.trans (hb9.mono hb6w.size)), fun b hb => ?_⟩
     simp only [List.mem_cons, List.not_mem_nil, or_false] at hb
     intro hvv
     have := hvb _ hvv
     rcases hb with rfl | rfl <;> omega
    have k6 := k6.below hb9
    have kM := kM.below hb9
    have kS := kS.below hb9
    clear hR6 hb9 hlr hD hR9' hb6w
    show CallsIn Fence.wide _ _ _ #[.func (.yield lr) #[] #[], .pointer (some ⟨XM, 0, none⟩), .pointer (some ⟨XS, 0, none⟩)] _ _
    refine (callsIn_wide.2 (moves_calls m s XM XS lr ab ag nb cb ng cg
     (fun L B => B.heap[lr]? = some (.loop rec) ∧ B.heap[D]? = some (.deferred (some [])) ∧ BlkR B XM (.cells #[.slice ab nb cb, .int .i64 m.st, .slice ag ng cg] 98) ∧ BlkR B XS (.cells #[.int .i64 (s : Int)] 117) ∧ BlkR B X6 (.cells #[.int .i64 (s : Int)] 117) ∧ FaiO w wa Ds [X6, XS] X2 X3 X4 BM X5 (faiIn (faiF m k) s r L) k B ∧ ∀ c ∈ L, chgE m ⟨vo, lo, hi, ci, br, re⟩ s c = 0)
     (fun B => B.heap[lr]? = some (.loop RD) ∧ B.heap[D]? = some (.deferred (some [])) ∧ MK w Ds B ∧ Below w.heap.size w B ∧ ∃ (aS : Option Addr) (cS : Nat) (rr : List Nat), BlkR B X2 (.cells #[.slice aS rr.length cS] 48) ∧ BlkR B X3 (.cells #[.bool true] 4) ∧ IntsR B aS rr.length (nats rr) ∧ rr.length ≤ cS ∧ V = some rr) w9 HM.out.1 HM.out.2 (Nat.lt_of_lt_of_le HPS.out.2.2.1 HP64.out) ?_ ?_ ?_ ⟨hL1, hK1, kM, kS, k6, hR9, fun c hc => by cases hc⟩)).mono ?_
    ·rintro L A B ⟨p1, p2, p3, p4, p5, p6, p7⟩ hb
     exact ⟨blk_below p1 hb, blk_below p2 hb, p3.below hb, p4.below hb, p5.below hb, p6.below hb, p7⟩
    ·rintro L A ⟨p1, p2, p3, p4, p5, p6, p7⟩
     exact ⟨p3, p4, ER.same (HGR.out.2.below HBA.out) p6.sc p6.sz⟩
    ·rintro i A hin hmb ⟨p1, p2, p3, p4, p5, p6, p7⟩
     have hslt := HPS.out.2.2.1
     have hmem : (s, r) ∈ faiIn (faiF m k) s r (movU m s i) := faiIn_sub (List.mem_of_getElem? HPS.out.1) _
     have hky : (faiIn (faiF m k) s r (movU m s i)).map Prod.fst = reaIn (reaF m k) s (movU m s i) := by rw [faiIn_keys, faiF_keys]
     have hOK := Rea.inn HM.out.1 (HRO.out k) (by rw [HM.out.2]; exact hslt) (movU m s i) (fun c hc => by
      unfold movU at hc
      have := List.mem_range.1 (List.mem_filter.1 hc).1
      rw [HM.out.2]; omega)
     have hOL := hOK.len HM.out.1
     rw [← hky, List.length_map] at hOL
     rw [← hky] at hOK
     have HFD := Lib.hid (fun (h : chgE m ⟨vo, lo, hi, ci, br, re⟩ s i ≠ 0) => show V = some (r ++ [i]) by
      have h1 : badC m ⟨vo, lo, hi, ci, br, re⟩ s = some i := find_mov (p := fun c => decide (chgE m ⟨vo, lo, hi, ci, br, re⟩ s c ≠ 0)) hmb (fun c hc => decide_eq_false (by rw [p7 c hc]; simp)) (decide_eq_true h) m.br.length (by rw [HM.out.2]; exact hin)
      rw [HVK.out]
      refine faiFrom_found HPS.out.2.2.2.2.1 ?_
      unfold faiK
      rw [HPS.out.1]
      show (badC m _ s).map _ = _
      rw [h1]; rfl)
     have HL0 := Lib.hid (fun (h : chgE m ⟨vo, lo, hi, ci, br, re⟩ s i = 0) => show ∀ c ∈ movU m s i ++ [i], chgE m ⟨vo, lo, hi, ci, br, re⟩ s c = 0 from fun c hc => by
      rcases List.mem_append.1 hc with h1 | h1
      ·exact p7 c h1
      ·rw [List.mem_singleton.1 h1]; exact h)
     obtain ⟨F, hF⟩ : ∃ F, F = faiIn (faiF m k) s r (movU m s i) := ⟨_, rfl⟩
     rw [← hF] at p6 hOL hmem hOK
     have HYE := Lib.hid (fun (h : trn s i ∈ F.map Prod.fst) => show faiIn (faiF m k) s r (movU m s i ++ [i]) = F by rw [hF] at h ⊢; exact faiIn_yes h)
     have HNO := Lib.hid (fun (h : trn s i ∉ F.map Prod.fst) => show faiIn (faiF m k) s r (movU m s i ++ [i]) = F ++ [(trn s i, r ++ [i])] by rw [hF] at h ⊢; exact faiIn_no h)
     have hkF : k < F.length := by
      have h1 : ∀ L, (faiF m k).length ≤ (faiIn (faiF m k) s r L).length := snoc_ind (Nat.le_refl _) (fun L c ih => by
       rw [faiIn_snoc]
       split
       ·exact ih
       ·rw [List.length_append]; omega)
      rw [hF]
      exact Nat.lt_of_lt_of_le HPS.out.2.2.2.2.2.1 (h1 _)
     have hT : trn s i < 64 := Nat.lt_of_lt_of_le (trn_lt' hn6 hslt hin) HP64.out
     have HTX := Lib.hid (fun (W : World) => HTU.out s i W (Nat.lt_of_lt_of_le hslt HP64.out) (by omega))
     have HCX := Lib.hid (fun (W : World) (h1 : BrR W ab nb m.br) (h2 : GrR W ag ng m.gs) => HCG.out s i W hslt hin h1 h2)
     have hs63 : s < 64 := Nat.lt_of_lt_of_le hslt HP64.out
     have hr64 : r.length ≤ 64 := by have := HPS.out.2.2.2.1; omega
     obtain ⟨T, hTT⟩ : ∃ T, T = trn s i := ⟨_, rfl⟩
     rw [← hTT] at HYE HNO hT HTX
     clear hOK hF hTT hky p7
     refine yield_two p1 hst hpe (by rw [hpa]; rfl) ?_
     obtain ⟨RB, hRB⟩ : ∃ RB : Loop, RB = { rec with state := .busy } := ⟨_, rfl⟩
     rw [← hRB]
     have HRB := Lib.hid hRB
     clear hRB
     rw [has, hbo, hpa, htm]
     clear has hbo hpa htm hst hpe
     gi_wp2
     refine ⟨p1, ?_⟩
     have hwl : w.heap.size ≤ lr := by omega
     have e1 : (A.putObj lr (.loop RB)).heap[lr]? = some (.loop RB) := World.putObj_heap_same (Array.getElem?_eq_some_iff.1 p1).1
     have e2 : (A.putObj lr (.loop RB)).heap[D]? = some (.deferred (some [])) := (World.putObj_heap_other (by omega)).trans p2
     have e3 := p3.put (r' := RB) p1
     have e4 := p4.put (r' := RB) p1
     have e5 := p5.put (r' := RB) p1
     have e6 := p6.put (r' := RB) p1 hwl
     generalize A.putObj lr (.loop RB) = A1 at *
     clear p1 p2 p3 p4 p5 p6
     have hnrm : ∀ (F' : List (Nat × List Nat)) (ac : Act) (W8 : World), faiIn (faiF m k) s r (movU m s i ++ [i]) = F' → chgE m ⟨vo, lo, hi, ci, br, re⟩ s i = 0 → W8.heap[lr]? = some (.loop RB) → W8.heap[D]? = some (.deferred (some [])) → BlkR W8 XM (.cells #[.slice ab nb cb, .int .i64 m.st, .slice ag ng cg] 98) → BlkR W8 XS (.cells #[.int .i64 (s : Int)] 117) → BlkR W8 X6 (.cells #[.int .i64 (s : Int)] 117) → FaiO w wa Ds [X6, XS] X2 X3 X4 BM X5 F' k W8 →
         twoPost Tryz.prog lr rec (fun e B => (e = .returned (.bool true) ∧ (B.heap[lr]? = some (.loop rec) ∧ B.heap[D]? = some (.deferred (some [])) ∧ BlkR B XM (.cells #[.slice ab nb cb, .int .i64 m.st, .slice ag ng cg] 98) ∧ BlkR B XS (.cells #[.int .i64 (s : Int)] 117) ∧ BlkR B X6 (.cells #[.int .i64 (s : Int)] 117) ∧ FaiO w wa Ds [X6, XS] X2 X3 X4 BM X5 (faiIn (faiF m k) s r (movU m s i ++ [i])) k B ∧ ∀ c ∈ movU m s i ++ [i], chgE m ⟨vo, lo, hi, ci, br, re⟩ s c = 0)) ∨ (e = .returned (.bool false) ∧ (B.heap[lr]? = some (.loop RD) ∧ B.heap[D]? = some (.deferred (some [])) ∧ MK w Ds B ∧ Below w.heap.size w B ∧ ∃ (aS : Option Addr) (cS : Nat) (rr : List Nat), BlkR B X2 (.cells #[.slice aS rr.length cS] 48) ∧ BlkR B X3 (.cells #[.bool true] 4) ∧ IntsR B aS rr.length (nats rr) ∧ rr.length ≤ cS ∧ V = some rr))) .normal ac W8 := by
      rintro F' ac W8 hO' h0 g1 g2 g3 g4 g5 g6
      exact ⟨by rw [← HRB.out]; exact g1, .inl ⟨rfl, World.putObj_heap_same (Array.getElem?_eq_some_iff.1 g1).1, (World.putObj_heap_other (by omega)).trans g2, g3.put g1, g4.put g1, g5.put g1, by rw [hO']; exact g6.put g1 hwl, HL0.out h0⟩⟩
     have HNRM := Lib.hid hnrm
     clear hnrm
     obtain ⟨f, hf1, hf2, hf3⟩ := e6.mp
     obtain ⟨ar, cr, hfs, hownr⟩ := hf3 (s, r) hmem
     simp only at hfs hownr
     have hlk := hf1.look setKeys Tryz.underlying137 (zeroInts A1) hs63 hfs
     unfold setV at hlk
     have HCLN := Lib.hid (cloneInts_any (nats r) wa.heap.size ar r.length cr A1 hownr (by omega))
     have c4 := blk_cell e6.x4 (i := 0) rfl
     have l4 := e6.x4.lt
     have c6 := blk_cell e5 (i := 0) rfl
     have l6 := e5.lt
     have HE := Lib.hid (And.intro e1 (And.intro e2 (And.intro e3 (And.intro e4 (And.intro e5 e6)))))
     clear e1 e2 e3 e4 e5 e6 f hf1 hf2 hf3 hfs hownr hmem
     gi_wp2
     refine ⟨trivial, CallsIn.mono (callsIn_wide.2 HCLN.out) ?_⟩
     rintro e7 w7 ⟨ac, cc, rfl, hb7, hown7⟩
     have HB7 := Lib.hid hb7
     have HO7 := Lib.hid hown7
     have hz7 := hb7.size
     clear hb7 hown7 hlk HCLN c4 l4 c6 l6
     gi_wp2_with (gi_at_builtin; refine wpListIn_int _ rfl _ _ rfl A1.heap.size r.length _ (.slice ac r.length cc) (icells (nats r)) (i : Int) rfl (HO7.out.alloc _) rfl (by rw [cell_of_row _ _ 0 _ _ _ (heap_alloc_new _ _)]; rfl) (by omega) (by simp; omega) ?_)
     intro v2 w2 hown2 hgr2 hb2
     obtain ⟨av2, cv2, rfl, _, _⟩ := owns_slice hown2
     have hb12 : Below A1.heap.size A1 w2 := (HB7.out.trans ((show Below w7.heap.size w7 (w7.alloc (Obj.cells #[.int .i64 (i : Int)] 3)) by (first|exact bwg|go_size)).mono hz7)).trans hb2
     have hON : icells (nats (r ++ [i])) = icells (nats r) ++ [.int .i64 (i : Int)] := by simp [nats, icells]
     rw [← hON] at hown2
     obtain ⟨e1, e2, e3, e4, e5, e6⟩ := HE.out
     have e1 := blk_below e1 hb12
     have e2 := blk_below e2 hb12
     have e3 := e3.below hb12
     have e4 := e4.below hb12
     have e5 := e5.below hb12
     have e7 := owns_mono hown2 e6.sz
     have e6 := e6.below hb12
     have hkx := e6.sc _ _ _ _ K1.out
     obtain ⟨c1, c1_1, c1_2, c1_3, c1_4, c1_5, c1_6, c1_7, c1_8, l1⟩ := blkc9 hkx
     have c6 := blk_cell e5 (i := 0) rfl
     have l6 := e5.lt
     have hbr2 : BrR w2 ab nb m.br := ER.same (HGR.out.1.below HBA.out) e6.sc e6.sz
     have hgr2' : GrR w2 ag ng m.gs := ER.same (HGR.out.2.below HBA.out) e6.sc e6.sz
     have HCW := Lib.hid (HCX.out w2 hbr2 hgr2')
     have HE2 := Lib.hid (And.intro e1 (And.intro e2 (And.intro e3 (And.intro e4 (And.intro e5 (And.intro e6 e7))))))
     clear e1 e2 e3 e4 e5 e6 e7 hkx hbr2 hgr2' hown2 hgr2 hb2 hb12 HE HB7 HO7 hz7 hON HCX
     obtain ⟨E, hE⟩ : ∃ E, E = chgE m ⟨vo, lo, hi, ci, br, re⟩ s i := ⟨_, rfl⟩
     rw [← hE] at HFD HCW
     have HEE := Lib.hid hE
     clear hE
     gi_wp2
     refine ⟨trivial, CallsIn.mono (callsIn_wide.2 HCW.out) ?_⟩
     rintro e8 w8 ⟨rfl, hb8⟩
     obtain ⟨e1, e2, e3, e4, e5, e6, e7⟩ := HE2.out
     have e1 := blk_below e1 hb8
     have e2 := blk_below e2 hb8
     have e3 := e3.below hb8
     have e4 := e4.below hb8
     have e5 := e5.below hb8
     have e6 := e6.below hb8
     have e7 := owns_below e7 hb8 (fun z hz => (e7.lt z hz).2)
     clear HE2 HCW hb8 c1 c1_1 c1_2 c1_3 c1_4 c1_5 c1_6 c1_7 c1_8 l1 c6 l6
     by_cases hE0 : E = 0
     ·have HCZ := Lib.hid (HEE.out.symm.trans hE0)
      obtain ⟨f, hf1, hf2, hf3⟩ := e6.mp
      have c6 := blk_cell e5 (i := 0) rfl
      have l6 := e5.lt
      have c4 := blk_cell e6.x4 (i := 0) rfl
      have l4 := e6.x4.lt
      have hlk := hf1.look_ok setKeys Tryz.underlying137 (zeroInts w8) hT
      unfold setV at hlk
      have hfT := hf2 T hT
      by_cases hin2 : T ∈ F.map Prod.fst
      ·rw [decide_eq_true hin2] at hfT
       rw [hfT] at hlk
       generalize (f T).getD (.slice none 0 0) = fv at *
       have HIN := Lib.hid hin2
       have HE3 := Lib.hid (And.intro e1 (And.intro e2 (And.intro e3 (And.intro e4 (And.intro e5 e6)))))
       subst hE0
       clear e1 e2 e3 e4 e5 e6 e7 f hf1 hf2 hf3 hfT hin2
       gi_wp2
       refine ⟨trivial, CallsIn.mono (callsIn_wide.2 (HTX.out _)) ?_⟩
       rintro e9 w9' ⟨rfl, rfl⟩
       gi_wp2
       obtain ⟨e1, e2, e3, e4, e5, e6⟩ := HE3.out
       exact HNRM.out F _ _ (HYE.out HIN.out) HCZ.out e1 e2 e3 e4 e5 e6
      ·rw [decide_eq_false hin2] at hfT
       rw [hfT] at hlk
       generalize (f T).getD (.slice none 0 0) = fv at hlk
       have HIN := Lib.hid hin2
       obtain ⟨wU, hrunU, hmapU, hgrowU, hncU⟩ := hf1.store setKeys Tryz.underlying137 (by unfold maxLen; omega) hT (.slice av2 (r.length + 1) cv2)
       unfold setV at hrunU
       have hkeep : ∀ (kk : Nat) (o : Obj), w8.heap[kk]? = some o → (∀ es c, o ≠ .map es c) → wU.heap[kk]? = some o := fun kk o hk ho => (hgrowU.block kk (Array.getElem?_eq_some_iff.1 hk).1 (by have := hf1.ne hk ho; simp only [ne_eq, Option.some.injEq]; exact this)).trans hk
       obtain ⟨v5, k5, hq5, hx5e⟩ := e6.x5
       have a1 := hkeep lr _ e1 (fun _ _ h => by cases h)
       have a2 := hkeep D _ e2 (fun _ _ h => by cases h)
       have a3 : BlkR wU XM _ := hkeep XM _ e3 (fun _ _ h => by cases h)
       have a4 : BlkR wU XS _ := hkeep XS _ e4 (fun _ _ h => by cases h)
       have a5 : BlkR wU X6 _ := hkeep X6 _ e5 (fun _ _ h => by cases h)
       have b2 : BlkR wU X2 _ := hkeep X2 _ e6.x2 (fun _ _ h => by cases h)
       have b3 : BlkR wU X3 _ := hkeep X3 _ e6.x3 (fun _ _ h => by cases h)
       have b4 : BlkR wU X4 _ := hkeep X4 _ e6.x4 (fun _ _ h => by cases h)
       have b5 : BlkR wU X5 _ := hkeep X5 _ k5 (fun _ _ h => by cases h)
       have bsc : SameCells wa wU := fun j cc t z hj => hkeep j _ (e6.sc j cc t z hj) (fun _ _ h => by cases h)
       have bmk : MK w Ds wU := ⟨e6.mks.1, fun D' hD' => ⟨(e6.mks.2 D' hD').1, hkeep D' _ (e6.mks.2 D' hD').2 (fun _ _ h => by cases h)⟩⟩
       have bbw : Below w.heap.size w wU := e6.bw.grown hgrowU e6.bw.size (fun kk hk => by simp only [Option.some.injEq] at hk; omega)
       have bsz : wa.heap.size ≤ wU.heap.size := Nat.le_trans e6.sz hgrowU.size
       have brn : RunsO wa BM (F ++ [(T, r ++ [i])]) wU := by
        refine ⟨_, by rw [List.length_append, List.length_singleton]; exact hmapU, fun x hx => ?_, fun p hp => ?_⟩
        ·show (if x = T then some _ else f x).isSome = _
         by_cases hxT : x = T
         ·subst hxT; simp
         ·rw [if_neg hxT, hf2 x hx]
          simp [hxT]
        ·show ∃ a c, (if p.1 = T then some _ else f p.1) = some (.slice a p.2.length c) ∧ _
         rcases List.mem_append.1 hp with h | h
         ·obtain ⟨a, c, q1, q2⟩ := hf3 p h
          rw [if_neg (by rintro rfl; exact HIN.out (List.mem_map_of_mem h))]
          exact ⟨a, c, q1, own_keepI q2 (fun kk c' hk => hkeep kk _ hk (fun _ _ h => by cases h))⟩
         ·rw [List.mem_singleton] at h
          subst h
          rw [if_pos rfl]
          refine ⟨av2, cv2, by rw [List.length_append, List.length_singleton], ?_⟩
          rw [List.length_append, List.length_singleton]
          exact own_keepI e7 (fun kk c' hk => hkeep kk _ hk (fun _ _ h => by cases h))
       have bq5 := hq5.keep (w' := wU) (fun kk c' hk => hkeep kk _ hk (fun _ _ h => by cases h))
       have c5 := blk_cell b5 (i := 0) rfl
       have l5 := b5.lt
       have f5 := blk_fz b5 0
       have HG := Lib.hid (And.intro a1 (And.intro a2 (And.intro a3 (And.intro a4 (And.intro a5 (And.intro b2 (And.intro b3 (And.intro b4 (And.intro b5 (And.intro bsc (And.intro bmk (And.intro bbw (And.intro bsz (And.intro brn hx5e))))))))))))))
       have HQ5 := Lib.hid bq5
       subst hE0
       clear e1 e2 e3 e4 e5 e6 e7 f hf1 hf2 hf3 hfT hin2 hmapU hgrowU hncU hkeep k5 hq5 a1 a2 a3 a4 a5 b2 b3 b4 b5 bsc bmk bbw brn bq5 hx5e
       gi_wp2
       refine ⟨trivial, CallsIn.mono (callsIn_wide.2 (HTX.out _)) ?_⟩
       rintro e9 w9' ⟨rfl, rfl⟩
       obtain ⟨ii, hi1, hi2, hi3, hi4⟩ := info_parts infoSet
       gi_wp2_with (gi_at_builtin; refine wpListIn_que _ rfl _ _ 118 rfl wa.heap.size 117 ii _ 8 Tryz.underlying118 hi1 hi2 hi3 hi4 rfl v5 (F.length - k) _ rfl (HQ5.out.below (by (first|exact bwg|go_size))) ⟨wU.heap.size, 0, none⟩ 1 (.int .i64 (T : Int)) rfl (by rw [cell_of_row _ _ 0 _ _ _ (heap_alloc_new _ _)]; rfl) rfl (by unfold maxLen; omega) (by omega) (by rw [World.size_alloc]; omega) ?_)
       intro v7 w7x hq7 hgr7 hb7 hloc7
       obtain ⟨a1, a2, a3, a4, a5, b2, b3, b4, b5, bsc, bmk, bbw, bsz', brn, hx5e⟩ := HG.out
       have hba : Below wU.heap.size wU (wU.alloc (Obj.cells #[.int .i64 (T : Int)] 117)) := by (first|exact bwg|go_size)
       have bq := HQ5.out.below hba
       have a1 := blk_below a1 hba
       have a2 := blk_below a2 hba
       have a3 := a3.below hba
       have a4 := a4.below hba
       have a5 := a5.below hba
       have b2 := b2.below hba
       have b3 := b3.below hba
       have b4 := b4.below hba
       have b5 := b5.below hba
       have bsc := bsc.below hba
       have bmk := bmk.below hba
       have bbw := bbw.trans (hba.mono bbw.size)
       have bsz' := Nat.le_trans bsz' hba.size
       have brn := brn.below hba
       have hzA : (wU.alloc (Obj.cells #[.int .i64 (T : Int)] 117)).heap.size = wU.heap.size + 1 := World.size_alloc ..
       generalize wU.alloc (Obj.cells #[.int .i64 (T : Int)] 117) = WA at *
       obtain ⟨_, g5, o5, cp5, cur5, hv5, hq1, hq2, hq3⟩ := bq
       clear hq3
       have hob : v5.ownBlock = some g5 := by rw [hv5]; rfl
       have hkq : ∀ (kk : Nat) (o : Obj), WA.heap[kk]? = some o → (∀ c, o ≠ .cells c 117 (0, 0)) → w7x.heap[kk]? = some o := fun kk o hk ho => (hgr7.block kk (Array.getElem?_eq_some_iff.1 hk).1 (by
        rw [hob]
        simp only [ne_eq, Option.some.injEq]
        rintro rfl
        rw [hk] at hq2
        simp only [Option.some.injEq] at hq2
        exact ho _ hq2)).trans hk
       have hnot : ∀ (kk : Nat), kk ∈ [X6, XS] → some kk ≠ v5.ownBlock := fun kk hk e => hx5e kk hk e.symm
       have d1 := hkq lr _ a1 (fun _ h => by cases h)
       have d2 := hkq D _ a2 (fun _ h => by cases h)
       have d3 : BlkR w7x XM _ := hkq XM _ a3 (fun _ h => by injection h with _ h _; exact absurd h (by decide))
       have d4 : BlkR w7x XS (.cells #[.int .i64 (s : Int)] 117) := (hgr7.block XS a4.lt (hnot XS (by simp))).trans a4
       have d5 : BlkR w7x X6 (.cells #[.int .i64 (s : Int)] 117) := (hgr7.block X6 a5.lt (hnot X6 (by simp))).trans a5
       have d6 : BlkR w7x X2 _ := hkq X2 _ b2 (fun _ h => by injection h with _ h _; exact absurd h (by decide))
       have d7 : BlkR w7x X3 _ := hkq X3 _ b3 (fun _ h => by injection h with _ h _; exact absurd h (by decide))
       have d8 : BlkR w7x X4 _ := hkq X4 _ b4 (fun _ h => by injection h with _ h _; exact absurd h (by decide))
       have d9 : BlkR w7x X5 _ := hkq X5 _ b5 (fun _ h => by injection h with _ h _; exact absurd h (by decide))
       have d10 : SameCells wa w7x := fun j cc t z hj => (hb7.block j (Array.getElem?_eq_some_iff.1 hj).1).trans (bsc j cc t z hj)
       have d11 : MK w Ds w7x := ⟨bmk.1, fun D' hD' => ⟨(bmk.2 D' hD').1, hkq D' _ (bmk.2 D' hD').2 (fun _ h => by cases h)⟩⟩
       have d12 : Below w.heap.size w w7x := bbw.trans (hb7.mono HBA.out.size)
       have d13 : wa.heap.size ≤ w7x.heap.size := Nat.le_trans bsz' hb7.size
       have d14 : RunsO wa BM (F ++ [(T, r ++ [i])]) w7x := brn.keep (fun kk c hk => hkq kk _ hk (fun _ h => by injection h with _ h _; exact absurd h (by decide))) (fun o hk h1 _ => hkq BM o hk (fun c h => h1 _ _ _ h))
       have d15 : ∀ b ∈ [X6, XS], v7.ownBlock ≠ some b := fun b hb e => by
        rcases hloc7 with h | h
        ·rw [h] at e; exact hx5e b hb e
        ·have h1 := h b e
         simp only [List.mem_cons, List.not_mem_nil, or_false] at hb
         rcases hb with rfl | rfl
         ·have := a5.lt; omega
         ·have := a4.lt; omega
       have hlist : (((F ++ [(T, r ++ [i])]).map Prod.fst).drop k).map setV = ((F.map Prod.fst).drop k).map setV ++ [.int .i64 (T : Int)] := by
        rw [List.map_append, List.drop_append_of_le_length (by rw [List.length_map]; omega), List.map_append]
        rfl
       have hlen7 : (F ++ [(T, r ++ [i])]).length - k = F.length - k + 1 := by rw [List.length_append, List.length_singleton]; omega
       obtain ⟨g7, o7, cp7, rfl⟩ : ∃ g o c, v7 = .slice (some ⟨g, o, none⟩) (F.length - k + 1) c := by obtain ⟨_, g, o, c, _, h, _⟩ := hq7; exact ⟨g, o, c, h⟩
       rw [show List.drop k (List.map (setV ∘ Prod.fst) F) = ((F.map Prod.fst).drop k).map setV by rw [List.map_drop, List.map_map], ← hlist] at hq7
       have c5 := blk_cell d9 (i := 0) rfl
       have l5 := d9.lt
       have f5 := blk_fz d9 0
       have HL7 := Lib.hid hlen7
       have HQQ := Lib.hid (And.intro d1 (And.intro d2 (And.intro d3 (And.intro d4 (And.intro d5 (And.intro d6 (And.intro d7 (And.intro d8 (And.intro d9 (And.intro d10 (And.intro d11 (And.intro d12 (And.intro d13 (And.intro d14 (And.intro d15 hq7)))))))))))))))
       clear hzA d1 d2 d3 d4 d5 d6 d7 d8 d9 d10 d11 d12 d13 d14 d15 hq7 hlist hlen7 hnot hkq hob hq1 hq2 hv5 a1 a2 a3 a4 a5 b2 b3 b4 b5 bsc bmk bbw bsz' brn hx5e hba hgr7 hb7 hloc7 HG HQ5
       gi_wp2
       obtain ⟨d1, d2, d3, d4, d5, d6, d7, d8, d9, d10, d11, d12, d13, d14, d15, hq7⟩ := HQQ.out
       refine HNRM.out (F ++ [(T, r ++ [i])]) _ _ (HNO.out HIN.out) HCZ.out ((heap_set_neI (by omega)).trans d1) ((heap_set_neI (by omega)).trans d2) (d3.set d9 (by decide) 0 _) (d4.set d9 (by decide) 0 _) (d5.set d9 (by decide) 0 _) ⟨d10.setI (Array.getElem?_eq_none (by omega)), by rw [World.size_setCell]; exact d13, d12.setCell (show w.heap.size ≤ X5 by omega) _, d11.setI d9, d6.set d9 (by decide) 0 _, d7.set d9 (by decide) 0 _, d8.set d9 (by decide) 0 _, d14.set d9 (by decide), _, blk_set d9 0 _, by rw [HL7.out]; exact hq7.set d9 (by decide), d15⟩
     ·have HVF := Lib.hid (HFD.out hE0)
      have y2 := blk_cell e6.x2 (i := 0) rfl
      have z2 := blk_fz e6.x2 0
      have m2 := e6.x2.lt
      have y3 := blk_cell e6.x3 (i := 0) rfl
      have z3 := blk_fz e6.x3 0
      have m3 := e6.x3.lt
      have hE1 := bne_iff_ne.2 hE0
      have HE3 := Lib.hid (And.intro e1 (And.intro e2 (And.intro e6 e7)))
      clear e1 e2 e3 e4 e5 e6 e7 hE0
      gi_wp2
      obtain ⟨e1, e2, e6, e7⟩ := HE3.out
      have n23 : X2 ≠ X3 := by omega
      have f3 : BlkR (w8.setCell ⟨X2, 0, none⟩ (.slice av2 (r.length + 1) cv2)) X3 (.cells #[.bool false] 4) := e6.x3.set e6.x2 (by decide) 0 _
      have f2 : BlkR (w8.setCell ⟨X2, 0, none⟩ (.slice av2 (r.length + 1) cv2)) X2 (.cells #[.slice av2 (r.length + 1) cv2] 48) := blk_set e6.x2 0 _
      have g2' := f2.set f3 (by decide) 0 (.bool true)
      have g3' : BlkR ((w8.setCell ⟨X2, 0, none⟩ (.slice av2 (r.length + 1) cv2)).setCell ⟨X3, 0, none⟩ (.bool true)) X3 (.cells #[.bool true] 4) := blk_set f3 0 _
      have g1' : ((w8.setCell ⟨X2, 0, none⟩ (.slice av2 (r.length + 1) cv2)).setCell ⟨X3, 0, none⟩ (.bool true)).heap[lr]? = some (.loop RB) := (heap_set_neI (by omega)).trans ((heap_set_neI (by omega)).trans e1)
      have gD' : ((w8.setCell ⟨X2, 0, none⟩ (.slice av2 (r.length + 1) cv2)).setCell ⟨X3, 0, none⟩ (.bool true)).heap[D]? = some (.deferred (some [])) := (heap_set_neI (by omega)).trans ((heap_set_neI (by omega)).trans e2)
      have gM' := (e6.mks.setI (i := 0) (v := .slice av2 (r.length + 1) cv2) e6.x2).setI (i := 0) (v := .bool true) f3
      have gb' : Below w.heap.size w ((w8.setCell ⟨X2, 0, none⟩ (.slice av2 (r.length + 1) cv2)).setCell ⟨X3, 0, none⟩ (.bool true)) := (e6.bw.setCell (show w.heap.size ≤ X2 by omega) _).setCell (show w.heap.size ≤ X3 by omega) _
      have gO' := own_setO (i := 0) (x := .bool true) (own_setO (i := 0) (x := .slice av2 (r.length + 1) cv2) e7 e6.x2 (by decide)) f3 (by decide)
      generalize (w8.setCell ⟨X2, 0, none⟩ (.slice av2 (r.length + 1) cv2)).setCell ⟨X3, 0, none⟩ (.bool true) = WF at *
      refine ⟨by rw [← HRB.out]; exact g1', .inr ⟨rfl, by rw [← HRD.out]; exact World.putObj_heap_same (Array.getElem?_eq_some_iff.1 g1').1, (World.putObj_heap_other (by omega)).trans gD', gM'.put g1', gb'.trans (belowK_b (w := w) (Nat.le_refl _) _ lr _ _ (by omega) g1' rfl rfl), av2, cv2, r ++ [i], ?_, g3'.put g1', ?_, ?_, HVF.out⟩⟩
      ·rw [List.length_append, List.length_singleton]; exact g2'.put g1'
      ·rw [List.length_append, List.length_singleton]; exact SlR.of_owns (own_put gO' g1')
      ·rw [List.length_append, List.length_singleton]; obtain ⟨_, _, hq, hq2, _⟩ := owns_slice gO'; cases hq; exact hq2
    ·rintro e W9 ⟨⟨v, rfl⟩, h⟩
     have hwl : w.heap.size ≤ lr := by omega
     rcases h with ⟨p1, p2, p3, p4, p5, p6, p7⟩ | ⟨h1, h2, h3, h4, aS, cS, rr, h5, h6, h7, h7c, h8⟩
     ·refine ⟨⟨_, rfl⟩, .inl ⟨p1, ?_⟩⟩
      have e6 := p6.put (r' := { rec with state := .exhausted }) p1 hwl
      have e2 : (W9.putObj lr (.loop { rec with state := .exhausted })).heap[D]? = some (.deferred (some [])) := (World.putObj_heap_other (by omega)).trans p2
      have hF1 := faiF_next HPS.out.1
      rw [← hF1] at e6
      have hnone : faiK m ⟨vo, lo, hi, ci, br, re⟩ k = none := by
       unfold faiK
       rw [HPS.out.1]
       show (badC m _ s).map _ = _
       have : badC m ⟨vo, lo, hi, ci, br, re⟩ s = none := List.find?_eq_none.2 (fun c hc => by rw [p7 c hc]; simp)
       rw [this]; rfl
      have HVN := Lib.hid (HVK.out.trans (faiFrom_step HPS.out.2.2.2.2.1 hnone))
      have hmk := e6.mks.cons e2 hwD hnD
      generalize W9.putObj lr (.loop { rec with state := .exhausted }) = W2 at *
      obtain ⟨v5, h5, h6, _⟩ := e6.x5
      have hnlt : k < (faiF m (k + 1)).length := Nat.lt_of_lt_of_le HPS.out.2.2.2.2.2.1 (faiF_mono m k)
      obtain ⟨nn, hnn⟩ : ∃ nn, (faiF m (k + 1)).length - k = nn + 1 := ⟨(faiF m (k + 1)).length - k - 1, by omega⟩
      obtain ⟨s', hs', hdr⟩ : ∃ s', (reaF m (k + 1))[k]? = some s' ∧ ((faiF m (k + 1)).map Prod.fst).drop k = s' :: ((faiF m (k + 1)).map Prod.fst).drop (k + 1) := by
       have hl : k < (reaF m (k + 1)).length := by rw [← faiF_keys, List.length_map]; exact hnlt
       rw [faiF_keys, List.drop_eq_getElem_cons hl]
       exact ⟨_, List.getElem?_eq_getElem hl, rfl⟩
      rw [hnn, hdr, List.map_cons] at h6
      obtain ⟨gz, oz, cz, hv5, hnc, hgl, hcell, cur, hcur1, hcur2, hcur3, hcur4, hcur5⟩ := h6.cell
      subst hv5
      have c5 := blk_cell h5 (i := 0) rfl
      have l5 := h5.lt
      have HXN := Lib.hid (And.intro hcur1 (And.intro hcur2 (And.intro hcur3 (And.intro hcur4 (And.intro hcur5 (And.intro hnc (And.intro hnn hnlt)))))))
      have HE6 := Lib.hid (And.intro e6 (And.intro hmk h5))
      clear p1 p2 p3 p4 p5 p6 p7 e2 e6 hF1 hnone hmk h5 h6 hs' hdr hcur1 hcur2 hcur3 hcur4 hcur5 hnc hcell hgl hnn hnlt hR9 kM kS k6 hL1 hK1 hst hpe hpa htm has hbo
      have hlx : (((faiF m (k + 1)).map Prod.fst).drop (k + 1)).length = nn := by
       rw [List.length_drop, List.length_map]
       have := HXN.out.2.2.2.2.2.2.1
       omega
      have hend : ∀ (o' c' : Nat), QueR W2 wa.heap.size 117 (.slice (some ⟨gz, o', none⟩) nn c') nn ((((faiF m (k + 1)).map Prod.fst).drop (k + 1)).map setV) → FaiO w wa (D :: Ds) [] X2 X3 X4 BM W2.heap.size (faiF m (k + 1)) (k + 1) (W2.alloc (Obj.cells #[.slice (some ⟨gz, o', none⟩) nn c'] 118)) := by
       intro o' c' hq
       obtain ⟨e6, hmk, _⟩ := HE6.out
       have hba : Below W2.heap.size W2 (W2.alloc (Obj.cells #[.slice (some ⟨gz, o', none⟩) nn c'] 118)) := by (first|exact bwg|go_size)
       have e := e6.below hba
       refine ⟨e.sc, e.sz, e.bw, hmk.below hba, e.x2, e.x3, e.x4, e.mp, _, heap_alloc_new _ _, ?_, fun b hb => by cases hb⟩
       rw [show (faiF m (k + 1)).length - (k + 1) = nn by have := HXN.out.2.2.2.2.2.2.1; omega]
       exact hq.below hba
      have HEND := Lib.hid hend
      have HLX := Lib.hid hlx
      have hw2 : w.heap.size ≤ W2.heap.size := HE6.out.1.bw.size
      have hw2a : wa.heap.size ≤ W2.heap.size := HE6.out.1.sz
      have hw24 : X4 < W2.heap.size := HE6.out.1.x4.lt
      clear hend hlx
      go_wp2_with fail
      ·rename_i hcz
       refine ⟨64 - k, by have := HPS.out.2.2.2.2.1; omega, ?_⟩
       rw [HI.out]
       have hn0 : nn = 0 := by have := HXN.out.2.2.2.2.2.1; omega
       refine ⟨k + 1, D :: Ds, W2.heap.size, _, _, _, _, _, _, _, _, _, _, _, _, _, _, _, _, _, _, _, _, _, _, _, _, _, _, _, _, _, _, _, _, _, _, _, _, _, _, _, _, _, _, _, _, _, _, _, _, _, _, _, rfl, by omega, by have := HPS.out.2.2.2.2.1; omega, by have := HXN.out.2.2.2.2.2.2.2; omega, hw2, hw2a, hw24, HEND.out _ _ ?_, HVN.out⟩
       have hl0 := HLX.out
       subst hn0
       obtain ⟨q1, q2, q3, q4, _⟩ := HXN.out
       exact ⟨by rw [List.length_map]; exact hl0, gz, oz, 0, cur, rfl, q2, q1, by omega, by omega, by omega, by rw [List.eq_nil_of_length_eq_zero hl0]; simp⟩
      ·refine ⟨64 - k, by have := HPS.out.2.2.2.2.1; omega, ?_⟩
       rw [HI.out]
       refine ⟨k + 1, D :: Ds, W2.heap.size, _, _, _, _, _, _, _, _, _, _, _, _, _, _, _, _, _, _, _, _, _, _, _, _, _, _, _, _, _, _, _, _, _, _, _, _, _, _, _, _, _, _, _, _, _, _, _, _, _, _, _, rfl, by omega, by have := HPS.out.2.2.2.2.1; omega, by have := HXN.out.2.2.2.2.2.2.2; omega, hw2, hw2a, hw24, HEND.out _ _ ?_, HVN.out⟩
       obtain ⟨q1, q2, q3, q4, q5, q6, _⟩ := HXN.out
       exact ⟨by rw [List.length_map]; exact HLX.out, gz, oz + 1, cz, cur, rfl, q2, q1, q6, by omega, by omega, q5⟩
     ·refine ⟨⟨_, rfl⟩, .inr ⟨by rw [h1, HRD.out], ?_⟩⟩
      have g2' : (W9.putObj lr (.loop { rec with state := .exhausted, pending := some .ret })).heap[D]? = some (.deferred (some [])) := (World.putObj_heap_other (by omega)).trans h2
      have q2 := h5.put (r' := { rec with state := .exhausted, pending := some .ret }) h1
      have q3 := h6.put (r' := { rec with state := .exhausted, pending := some .ret }) h1
      have hM := (h3.cons h2 hwD hnD).put (r' := { rec with state := .exhausted, pending := some .ret }) h1
      have hBw : Below w.heap.size w (W9.putObj lr (.loop { rec with state := .exhausted, pending := some .ret })) := h4.trans (belowK_b (w := w) (Nat.le_refl _) W9 lr _ _ (by omega) h1 rfl rfl)
      have hIS : IntsR (W9.putObj lr (.loop { rec with state := .exhausted, pending := some .ret })) aS rr.length (nats rr) := SlR.same h7 ((SameCells.refl W9).put h1) (by rw [World.putObj_size]; exact Nat.le_refl _)
      generalize W9.putObj lr (.loop { rec with state := .exhausted, pending := some .ret }) = W2 at *
      subst h8
      refine leaves_marks (B := w.heap.size) (w0 := w) (D :: Ds) W2 hM.1 hM.2 hBw (fun w' hs hb' => ⟨.tuple #[.slice aS rr.length cS, .bool true], ?_, aS, rr.length, cS, rfl, hb', ?_, h7c⟩)
      ·have c4 := blk_cell (hs _ _ _ _ q2) (i := 0) rfl
       have c5 := blk_cell (hs _ _ _ _ q3) (i := 0) rfl
       simp [results, Tryz.results49, go_sem, c4, c5]
      ·exact SlR.sameY hIS (by omega) hs
   ·have hk0 : (faiF m k).length - k = 0 := by omega
    rw [hk0] at h6
    obtain ⟨_, gz, oz, cz, cur, hv5, _⟩ := h6
    subst hv5
    have hVn : V = none := by rw [HVK.out]; exact faiFrom_none (i := 0) (by omega) (64 - k)
    subst hVn
    have r2 := HFO.out.x2
    have r3 := HFO.out.x3
    have y2 := blk_cell r2 (i := 0) rfl
    have z2 := blk_fz r2 0
    have m2 := r2.lt
    have y3 := blk_cell r3 (i := 0) rfl
    have z3 := blk_fz r3 0
    have m3 := r3.lt
    have n23 : X2 ≠ X3 := by omega
    clear h5 hkx hqn r2 r3
    go_wp2_with fail
    have r2 := HFO.out.x2
    have r3 := HFO.out.x3
    have f3 : BlkR (W.setCell ⟨X2, 0, none⟩ (.slice none 0 0)) X3 (.cells #[.bool false] 4) := r3.set r2 (by decide) 0 _
    have f2 : BlkR (W.setCell ⟨X2, 0, none⟩ (.slice none 0 0)) X2 (.cells #[.slice none 0 0] 48) := blk_set r2 0 _
    have g2' := f2.set f3 (by decide) 0 (.bool false)
    have g3' : BlkR ((W.setCell ⟨X2, 0, none⟩ (.slice none 0 0)).setCell ⟨X3, 0, none⟩ (.bool false)) X3 (.cells #[.bool false] 4) := blk_set f3 0 _
    have gM' := (HFO.out.mks.setI (i := 0) (v := .slice none 0 0) r2).setI (i := 0) (v := .bool false) f3
    have gb' : Below w.heap.size w ((W.setCell ⟨X2, 0, none⟩ (.slice none 0 0)).setCell ⟨X3, 0, none⟩ (.bool false)) := (HFO.out.bw.setCell (show w.heap.size ≤ X2 by omega) _).setCell (show w.heap.size ≤ X3 by omega) _
    generalize (W.setCell ⟨X2, 0, none⟩ (.slice none 0 0)).setCell ⟨X3, 0, none⟩ (.bool false) = WF at *
    refine leaves_marks (B := w.heap.size) (w0 := w) Ds WF gM'.1 gM'.2 gb' (fun w' hs hb' => ⟨.tuple #[.slice none 0 0, .bool false], ?_, none, 0, 0, rfl, hb', IntsR.nil _ _, Nat.le_refl _⟩)
    have c4 := blk_cell (hs _ _ _ _ g2') (i := 0) rfl
    have c5 := blk_cell (hs _ _ _ _ g3') (i := 0) rfl
    simp [results, Tryz.results49, go_sem, c4, c5]
 ·have hVn : V = some [] := by rw [HFV.out, if_pos h0]
  subst hVn
  have e1 := bne_iff_ne.2 h0
  have y2 := blk_cell r2 (i := 0) rfl
  have z2 := blk_fz r2 0
  have m2 := r2.lt
  have y3 := blk_cell r3 (i := 0) rfl
  have z3 := blk_fz r3 0
  have m3 := r3.lt
  have n23 : X2 ≠ X3 := by omega
  have HR2 := Lib.hid r2
  have HR3 := Lib.hid r3
  clear hSE k13 r2 r3 h0
  go_wp2_with fail
  have r2 := HR2.out
  have r3 := HR3.out
  have f3 : BlkR (w3.setCell ⟨X2, 0, none⟩ (.slice none 0 0)) X3 (.cells #[.bool false] 4) := r3.set r2 (by decide) 0 _
  have f2 : BlkR (w3.setCell ⟨X2, 0, none⟩ (.slice none 0 0)) X2 (.cells #[.slice none 0 0] 48) := blk_set r2 0 _
  have g2' := f2.set f3 (by decide) 0 (.bool true)
  have g3' : BlkR ((w3.setCell ⟨X2, 0, none⟩ (.slice none 0 0)).setCell ⟨X3, 0, none⟩ (.bool true)) X3 (.cells #[.bool true] 4) := blk_set f3 0 _
  have gb' : Below w.heap.size w ((w3.setCell ⟨X2, 0, none⟩ (.slice none 0 0)).setCell ⟨X3, 0, none⟩ (.bool true)) := (HB3.out.setCell (show w.heap.size ≤ X2 by omega) _).setCell (show w.heap.size ≤ X3 by omega) _
  generalize (w3.setCell ⟨X2, 0, none⟩ (.slice none 0 0)).setCell ⟨X3, 0, none⟩ (.bool true) = WF at *
  refine leaves_marks (B := w.heap.size) (w0 := w) [] WF List.nodup_nil (fun D hD => by simp at hD) gb' (fun w' hs hb' => ⟨.tuple #[.slice none 0 0, .bool true], ?_, none, 0, 0, rfl, hb', IntsR.nil _ _, Nat.le_refl _⟩)
  have c4 := blk_cell (hs _ _ _ _ g2') (i := 0) rfl
  have c5 := blk_cell (hs _ _ _ _ g3') (i := 0) rfl
  simp [results, Tryz.results49, go_sem, c4, c5]
end Go.Proofs.YtdjinmieogpgcaaGreat
