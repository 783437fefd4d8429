import Derived.Maps.OwnSet
import Derived.Maps.OwnOps
import Derived.Deep.AppendLies
import Derived.Test.YtdjinmieogpgcaaGreatMTCirP
import Derived.Test.YtdjinmieogpgcaaGreatTCurr
/- A map of the call's own, as a function from keys to elements. -/
namespace Go.Proofs.YtdjinmieogpgcaaGreat
open Go.RowKit
set_option linter.unusedVariables false
def heldR (v : Value) : Option (DataW Value × List MemPlace) := some (.held v, [])
section
variable {P : Program} {α : Type} {K t e : TypeId} {kv : α → Value} {kl : α → Lit} {ok : α → Prop}
structure KeyG (P : Program) (K : TypeId) (kv : α → Value) (kl : α → Lit) (ok : α → Prop) : Prop where
 kd : Go.Maps.Keyed P K
 of : ∀ a, ok a → keyOf P K (kv a) = some (kl a)
 lit : ∀ a, ok a → WideAt.IsKeyLit (kl a)
 inj : ∀ a b, ok a → ok b → kl a = kl b → a = b
def MapG (P : Program) (K : TypeId) (kl : α → Lit) (ok : α → Prop) (w : World) (b n : Nat) (f : α → Option Value) : Prop :=
 ∃ D, w.ownsMap P K heldR b n D ∧ ∀ a, ok a → Maps.has D (kl a) = (f a).isSome ∧ ∀ v, f a = some v → ∀ z, D.atKey (kl a) z = .held v
variable {w : World} {b n : Nat} {f : α → Option Value}
theorem MapG.made (w : World) : MapG P K kl ok (w.alloc (.map #[] 0)) w.heap.size 0 (fun _ => none) :=
 ⟨.map [], World.ownsMap_made w P K heldR, fun a _ => ⟨rfl, fun v h => by cases h⟩⟩
theorem MapG.other {w' : World} (h : MapG P K kl ok w b n f) (ho : ∀ o, w.heap[b]? = some o → (∀ c t z, o ≠ .cells c t z) → (∀ r, o ≠ .loop r) → w'.heap[b]? = some o) : MapG P K kl ok w' b n f := by
 obtain ⟨D, ⟨es, clock, hb, h2⟩, h3⟩ := h
 exact ⟨D, ⟨es, clock, ho _ hb (fun _ _ _ h => by cases h) (fun _ h => by cases h), h2⟩, h3⟩
theorem MapG.below {w' : World} (h : MapG P K kl ok w b n f) (hb : Below w.heap.size w w') : MapG P K kl ok w' b n f :=
 h.other fun o ho _ _ => (hb.block b (Array.getElem?_eq_some_iff.1 ho).1).trans ho
theorem MapG.set {X i : Nat} {c : Array Value} {t' : TypeId} {v : Value} (h : MapG P K kl ok w b n f) (hx : w.heap[X]? = some (.cells c t')) : MapG P K kl ok (w.setCell ⟨X, i, none⟩ v) b n f :=
 h.other fun o ho h1 _ => by
  rw [show (w.setCell ⟨X, i, none⟩ v).heap[b]? = w.heap[b]? from by
   have hne : X ≠ b := by rintro rfl; rw [hx] at ho; simp only [Option.some.injEq] at ho; exact h1 _ _ _ ho.symm
   simp [World.setCell, Array.getElem?_modify, hne]]
  exact ho
theorem MapG.look_ok (hk : KeyG P K kv kl ok) (ht : P.underlying t = some (.map K e)) {z : Value} (hz : (zeroValue e).run P w = .ok z w) (h : MapG P K kl ok w b n f) {a : α} (ha : ok a) :
    (Instr.lookup t (.map (some b)) (kv a) true).run P w = .ok (.tuple #[(f a).getD z, .bool (f a).isSome]) w := by
 obtain ⟨D, h1, h2⟩ := h
 obtain ⟨h3, h4⟩ := h2 a ha
 obtain ⟨v, ps, hr, hv⟩ := h1.look_ok hk.kd ht hz (show heldR z = some (.held z, []) from rfl) (hk.of a ha)
 rw [hr, h3]
 have hv : DataW.held v = D.atKey (kl a) (.held z) := by
  unfold heldR at hv
  simp only [Option.some.injEq, Prod.mk.injEq] at hv
  exact hv.1
 cases hf : f a with
 | some v0 =>
  rw [h4 v0 hf] at hv
  injection hv with hv
  subst hv
  rfl
 | none =>
  rw [hf] at h3
  rw [Maps.atKey_of_not_has h3] at hv
  injection hv with hv
  subst hv
  rfl
theorem MapG.look (hk : KeyG P K kv kl ok) (ht : P.underlying t = some (.map K e)) {z : Value} (hz : (zeroValue e).run P w = .ok z w) (h : MapG P K kl ok w b n f) {a : α} (ha : ok a) {v0 : Value} (hf : f a = some v0) :
    (Instr.lookup t (.map (some b)) (kv a) false).run P w = .ok v0 w := by
 obtain ⟨D, h1, h2⟩ := h
 obtain ⟨h3, h4⟩ := h2 a ha
 obtain ⟨v, ps, hr, hv⟩ := h1.lookup hk.kd ht hz (show heldR z = some (.held z, []) from rfl) (hk.of a ha)
 rw [hr]
 unfold heldR at hv
 simp only [Option.some.injEq, Prod.mk.injEq] at hv
 have hv := hv.1
 rw [h4 v0 hf] at hv
 injection hv with hv
 subst hv
 rfl
theorem MapG.store [DecidableEq α] (hk : KeyG P K kv kl ok) (ht : P.underlying t = some (.map K e)) (hn : n < maxLen) (h : MapG P K kl ok w b n f) {a : α} (ha : ok a) (v : Value) :
    ∃ w', (Instr.mapUpdate t (.map (some b)) (kv a) v).run P w = .ok () w' ∧ MapG P K kl ok w' b (n + 1) (fun x => if x = a then some v else f x) ∧ w.grownBy w' (some b) ∧ (∀ o, w'.heap[b]? = some o → ∀ c t z, o ≠ .cells c t z) := by
 obtain ⟨D, h1, h2⟩ := h
 obtain ⟨w', hr, h3, h4⟩ := h1.store hk.kd ht hn (hk.of a ha) (show heldR v = some (.held v, []) from rfl)
 refine ⟨w', hr, ⟨_, h3, fun x hx => ?_⟩, h4.grown, ?_⟩
 ·by_cases hxa : x = a
  ·subst hxa
   show Maps.has _ _ = (if x = x then some v else f x).isSome ∧ ∀ u, (if x = x then some v else f x) = some u → ∀ z, _
   rw [if_pos rfl]
   refine ⟨Maps.has_put_same h1.isMap (hk.lit x hx) _, fun u hu z => ?_⟩
   rw [Maps.atKey_put_same h1.isMap (hk.lit x hx)]
   injection hu with hu
   rw [hu]
  ·show Maps.has _ _ = (if x = a then some v else f x).isSome ∧ ∀ u, (if x = a then some v else f x) = some u → ∀ z, _
   rw [if_neg hxa]
   have hne : kl x ≠ kl a := fun e => hxa (hk.inj x a hx ha e)
   refine ⟨by rw [Maps.has_put_other hne]; exact (h2 x hx).1, fun u hu z => ?_⟩
   rw [Maps.atKey_put_other hne]
   exact (h2 x hx).2 u hu z
 ·obtain ⟨es, clock, hb, _⟩ := h3
  intro o ho c t' z hh
  rw [hb] at ho
  subst hh
  cases ho
end
end Go.Proofs.YtdjinmieogpgcaaGreat
/- slices.Clone at integers. -/
namespace Go.Proofs.YtdjinmieogpgcaaGreat
open Go.RowKit
set_option linter.unusedVariables false
set_option maxRecDepth 100000 in
theorem cloneInts_any (l : List Int) (B : Nat) (a : Option Addr) (n c : Nat) (w : World) (h : w.ownsRow B 3 1 (.slice a n c) n (icells l)) (hn : n ≤ 100000) :
    Calls Tryz.prog 78 #[.slice a n c] w fun e' w' => ∃ a' c', e' = .returned (.slice a' n c') ∧ Below w.heap.size w w' ∧ w'.ownsRow w.heap.size 3 1 (.slice a' n c') n (icells l) := by
 have H := Lib.hid (show IntsR w a n l from SlR.of_owns h)
 rcases h.2 with ⟨hv, h0⟩ | ⟨g, cap, cur, hv, _, _, _, _, _, _⟩
 ·cases hv
  have qT : ∀ (w : World), (binOp .eql 48 (.slice none 0 0) (.slice none 0 0)).run Tryz.prog w = .ok (.bool true) w := fun w => by first | exact Lib.run_eql_slice_nil w _ _ _ _ _ _ _ Tryz.underlying48 | exact Go.run_eql_slice_nil w _ _ _ _ _ _ _ Tryz.underlying48 | kernel_rfl
  have hl : l = [] := by have := H.out.len; exact List.eq_nil_of_length_eq_zero this
  subst hl
  clear h H
  go_enter Tryz.func78, Tryz.ntmps78
  go_wp2
  go_ret
  exact ⟨none, 0, rfl, by (first|exact bwg|go_size), World.ownsRow_nil _ _ _ _⟩
 ·cases hv
  have qT : ∀ (w : World), (binOp .eql 48 (.slice (some ⟨g, 0, none⟩) n c) (.slice none 0 0)).run Tryz.prog w = .ok (.bool false) w := fun w => by first | exact Lib.run_eql_slice_nil w _ _ _ _ _ _ _ Tryz.underlying48 | exact Go.run_eql_slice_nil w _ _ _ _ _ _ _ Tryz.underlying48 | kernel_rfl
  clear h
  go_enter Tryz.func78, Tryz.ntmps78
  go_wp2_with (at_builtin; refine wpList_append_sl _ rfl _ _ 48 rfl w.heap.size 3 _ 1 8 Tryz.underlying48 infoInt rfl (by omega) _ _ _ rfl (World.ownsRow_made w #[] 0 (by omega) (by simp [maxLen]) rfl) _ n c (icells l) rfl (H.out.below (by (first|exact bwg|go_size))) (icells_one _) (by omega) (by omega) (by simp) ?_)
  intro v2 w2 hown2 _ hb2
  try simp only [Nat.zero_add, List.nil_append] at hown2
  obtain ⟨a', c', rfl, _, _⟩ := owns_slice hown2
  have HO := Lib.hid hown2
  have HB := Lib.hid hb2
  clear hown2 hb2
  go_wp2
  go_ret
  exact ⟨a', c', rfl, Below.trans (by (first|exact bwg|go_size)) HB.out, HO.out⟩
/- The circulating current: the program. -/
open Go.RowKit Go.Shelf
set_option linter.unusedSimpArgs false
set_option maxHeartbeats 4000000 in
set_option maxRecDepth 100000 in
theorem circulating_any (m : Mac) (l : Lim) (s : Nat) (ab ag : Option Addr) (nb cb ng cg : Nat) (w : World) (hb : BrR w ab nb m.br) (he : ElV m l s 0) :
    Calls Tryz.prog 91 #[.agg #[.slice ab nb cb, .int .i64 m.st, .slice ag ng cg, .int .i64 l.volt, .int .i64 l.lo, .int .i64 l.hi, .int .i64 l.circ, .int .i64 l.brk, .int .i64 l.ret], .int .i64 (s : Int)] w fun e' w' => e' = .returned (.agg #[.int .i64 (cirA m l s).1, .int .i64 (cirA m l s).2]) ∧ Below w.heap.size w w' := by
 have hlen := hb.len
 have hn6 : nb ≤ 6 := by rw [← hlen]; exact he.hm.n1
 have hn0 : 1 ≤ nb := by rw [← hlen]; exact he.hm.n0
 have HBV := Lib.hid (fun (i : Nat) (hi : i < nb) => (he.hm.br i (by rw [hlen]; exact hi)).1)
 have HBR := Lib.hid (fun (W : World) (hbw : Below w.heap.size w W) => hb.below hbw)
 have HCR := Lib.hid (fun (W : World) (hbw : Below w.heap.size w W) => currents_any m l s 0 ab ag nb cb ng cg W he.hm (hb.below hbw) he.hl (by decide) (by rw [← hlen]; exact he.hs) he.h0)
 have HCB := Lib.hid (fun (i : Nat) (hi : i < nb) => curT_bd he (k := i) (by rw [hlen]; exact hi))
 have HFB := Lib.hid (fun (i : Nat) (hi : i ≤ nb) => cirF_bd he (k := i) (by rw [hlen]; exact hi))
 have HSK := Lib.hid (fun (i : Nat) => cirF_skip (m := m) (l := l) (s := s) (k := i))
 have HPL := Lib.hid (fun (i : Nat) (hi : i < nb) => cirF_plus he (k := i) (by rw [hlen]; exact hi))
 have HCZ := Lib.hid (cirF_zero he)
 have HCL := Lib.hid (show (curT m l s 0).length = nb by rw [curT_len, hlen])
 obtain ⟨V, hV⟩ : ∃ V, V = cirA m l s := ⟨_, rfl⟩
 have HV : V = (sz (cirF m l s nb).1, (cirF m l s nb).2) := by rw [hV, ← hlen]; rfl
 have HV := Lib.hid HV
 rw [← hV]
 generalize curT m l s 0 = CT at *
 obtain ⟨vo, lo, hi, ci, br, re⟩ := l
 obtain ⟨st, hst⟩ : ∃ x, x = m.st := ⟨_, rfl⟩
 rw [← hst] at HCR ⊢
 simp only at HCR ⊢
 clear hb he hst hlen hV
 go_enter Tryz.func91, Tryz.ntmps91
 go_wp2_with fail
 obtain ⟨w2, hW2⟩ : ∃ w2, w2 = (w.alloc (Obj.cells #[.slice ab nb cb, .int .i64 st, .slice ag ng cg, .int .i64 vo, .int .i64 lo, .int .i64 hi, .int .i64 ci, .int .i64 br, .int .i64 re] 100)).alloc (Obj.cells #[.int .i64 0, .int .i64 0] 85) := ⟨_, rfl⟩
 rw [← hW2]
 have hb2 : Below w.heap.size w w2 := by rw [hW2]; (first|exact bwg|go_size)
 have k2 : BlkR w2 w.heap.size (.cells #[.slice ab nb cb, .int .i64 st, .slice ag ng cg, .int .i64 vo, .int .i64 lo, .int .i64 hi, .int .i64 ci, .int .i64 br, .int .i64 re] 100) := by
  show w2.heap[w.heap.size]? = _
  rw [hW2, Below.heap_alloc _ _ _ (by simp)]; exact heap_alloc_new _ _
 have k4 : BlkR w2 (w.heap.size + 1) (.cells #[.int .i64 0, .int .i64 0] 85) := by
  show w2.heap[w.heap.size + 1]? = _
  rw [hW2]
  have := heap_alloc_new (w.alloc (Obj.cells #[.slice ab nb cb, .int .i64 st, .slice ag ng cg, .int .i64 vo, .int .i64 lo, .int .i64 hi, .int .i64 ci, .int .i64 br, .int .i64 re] 100)) (Obj.cells #[.int .i64 0, .int .i64 0] 85)
  rwa [World.size_alloc] at this
 obtain ⟨X2, hX2⟩ : ∃ X, X = w.heap.size := ⟨_, rfl⟩
 obtain ⟨X4, hX4⟩ : ∃ X, X = w.heap.size + 1 := ⟨_, rfl⟩
 rw [← hX4] at k4
 rw [← hX2] at k2
 simp only [← hX4]
 simp only [← hX2]
 have HX := Lib.hid (And.intro hX2 hX4)
 clear hW2 hX2 hX4
 refine (t_whole_any 0 _).mono ?_
 rintro e3 w3 ⟨rfl, hb3⟩
 have K2 := Lib.hid (k2.below hb3)
 have K4 := Lib.hid (k4.below hb3)
 have HB3 := Lib.hid (hb2.trans (hb3.mono hb2.size))
 clear k2 k4 hb2 hb3
 obtain ⟨c2, c2_1, c2_2, c2_3, c2_4, c2_5, c2_6, c2_7, c2_8, l2⟩ := blkc9 K2.out
 go_wp2_with fail
 obtain ⟨w4, hW4⟩ : ∃ w4, w4 = w3.alloc (Obj.cells #[.int .i64 0, .int .i64 1] 85) := ⟨_, rfl⟩
 rw [← hW4]
 have hb4 : Below w3.heap.size w3 w4 := by rw [hW4]; (first|exact bwg|go_size)
 have k5 : BlkR w4 w3.heap.size (.cells #[.int .i64 0, .int .i64 1] 85) := by show w4.heap[w3.heap.size]? = _; rw [hW4]; exact heap_alloc_new _ _
 obtain ⟨X5, hX5⟩ : ∃ X, X = w3.heap.size := ⟨_, rfl⟩
 rw [← hX5] at k5
 simp only [← hX5]
 have l25 : X2 < X5 := by rw [hX5]; exact K2.out.lt
 have l45 : X4 < X5 := by rw [hX5]; exact K4.out.lt
 have hw5 : w.heap.size ≤ X5 := by rw [hX5]; exact HB3.out.size
 have hbw4 := HB3.out.trans (hb4.mono HB3.out.size)
 refine (HCR.out _ hbw4).mono ?_
 rintro e6 w6 ⟨g, rfl, hg, hgr, hb6⟩
 have K2 := Lib.hid ((K2.out.below hb4).below hb6)
 have K4 := Lib.hid ((K4.out.below hb4).below hb6)
 have K5 := Lib.hid (k5.below hb6)
 have KG := Lib.hid (show BlkR w6 g _ from hgr)
 have HB6 := Lib.hid (hbw4.trans (hb6.mono hbw4.size))
 have l5g : X5 < g := Nat.lt_of_lt_of_le k5.lt hg
 clear c2 c2_1 c2_2 c2_3 c2_4 c2_5 c2_6 c2_7 c2_8 l2 hW4 hb4 k5 hX5 hbw4 hg hgr hb6 HB3
 go_wp2_with fail
 go_loopw [13] (fun x wr => ∃ i : Nat, x = .int .i64 (i : Int) ∧ i ≤ nb ∧ Hid (BlkR wr X5 (.cells #[.int .i64 (cirF m ⟨vo, lo, hi, ci, br, re⟩ s i).1, .int .i64 (cirF m ⟨vo, lo, hi, ci, br, re⟩ s i).2] 85)) ∧ Hid (BlkR wr g (.cells (pcells CT).toArray 85)) ∧ Hid (Below X5 w6 wr)) (fun x _ => nb - (intOf x).toNat)
 case atStart => exact ⟨0, rfl, Nat.zero_le _, Lib.hid (by rw [HCZ.out]; exact K5.out), KG, Lib.hid (Below.refl _ _)⟩
 case round =>
  clear K5 KG
  obtain ⟨i, rfl, hile, K5, KG, HBx⟩ := hrel
  have i0 : (0 : Int) ≤ (i : Int) := by omega
  have hl5 := K5.out.lt
  have K2r := Lib.hid (show BlkR wr X2 _ from (HBx.out.block X2 l25).trans K2.out)
  have K4r := Lib.hid (show BlkR wr X4 _ from (HBx.out.block X4 l45).trans K4.out)
  have HBw := Lib.hid (HB6.out.trans (HBx.out.mono hw5))
  by_cases hlt : i < nb
  ·have i1 : (i : Int) < (nb : Int) := by omega
   obtain ⟨bb, ob, rfl, hbb, hcc⟩ := (HBR.out _ HBw.out).addr (by omega)
   obtain ⟨c0, _⟩ := hcc i hlt
   have q2 := blk_cell K2r.out (i := 0) rfl
   have l2 := K2r.out.lt
   have lg := KG.out.lt
   obtain ⟨pg0, pg1⟩ := pcells_get CT i (by rw [HCL.out]; exact hlt)
   have cg0 := cell_of_row _ _ (i * 2) _ _ _ KG.out
   have cg1 := cell_of_row _ _ (i * 2 + 1) _ _ _ KG.out
   rw [List.getElem?_toArray] at cg0 cg1
   rw [pg0] at cg0
   rw [pg1] at cg1
   obtain ⟨t0, t1⟩ := HBV.out i hlt
   obtain ⟨tt, htt⟩ : ∃ r, r = (bAt m.br i).tap := ⟨_, rfl⟩
   rw [← htt] at c0 t0 t1
   have HTT := Lib.hid htt.symm
   have hcb := HCB.out i hlt
   have hfb := HFB.out i hile
   have hpl := HPL.out i hlt
   generalize CT.getD i (0, 0) = CC at *
   obtain ⟨cn, cd⟩ := CC
   obtain ⟨F, hF⟩ : ∃ F, F = cirF m ⟨vo, lo, hi, ci, br, re⟩ s i := ⟨_, rfl⟩
   rw [← hF] at hfb hpl K5
   obtain ⟨fn, fd⟩ := F
   obtain ⟨p1, p2, p3, p4⟩ := prod_safe (Nat.le_trans hfb.1 (by decide)) hfb.2 hcb.1 hcb.2
   have HPS := Lib.hid (fun (W : World) => t_plus_any fn fd cn cd W p1 p2 p3 p4)
   have HPL2 := Lib.hid hpl
   have HFF := Lib.hid hF
   obtain ⟨y0, y1, _⟩ := blkc2 K5.out
   clear hcc hcb hfb hpl p1 p2 p3 p4 htt pg0 pg1 hF
   simp only at HPS HPL2 y0 y1 cg0 cg1
   obtain rfl | rfl : tt = 0 ∨ tt = 1 := by omega
   ·go_wp2_with fail
    go_roundw
    case rel => exact ⟨i + 1, by go_num, by omega, Lib.hid (by rw [HSK.out i (by rw [HTT.out]; decide), ← HFF.out]; exact K5.out.below (by (first|exact bwg|go_size))), Lib.hid (KG.out.below (by (first|exact bwg|go_size))), Lib.hid (HBx.out.alloc (by omega) _)⟩
    case measure => simp [intOf]; omega
   ·go_wp2_with fail
    refine (HPS.out _).mono ?_
    rintro e7 w7 ⟨rfl, hb7⟩
    have hPP := HPL2.out (by rw [HTT.out])
    rw [hPP]
    have hbr7 : Below wr.heap.size wr w7 := Below.trans (by (first|exact bwg|go_size)) (hb7.mono (by simp))
    have k57 := K5.out.below hbr7
    have f0 := blk_fz k57 0
    have f1 := blk_fz k57 1
    obtain ⟨z0, z1, l57⟩ := blkc2 k57
    have HK := Lib.hid (And.intro k57 (And.intro (KG.out.below hbr7) (HBx.out.trans (hbr7.mono (by omega)))))
    clear hb7 hbr7 k57 hPP
    generalize hCF : cirF m ⟨vo, lo, hi, ci, br, re⟩ s (i + 1) = NF at *
    have HCF := Lib.hid hCF
    clear hCF
    obtain ⟨nf, nd⟩ := NF
    go_wp2_with fail
    go_roundw
    case rel =>
     obtain ⟨k1, k2, k3⟩ := HK.out
     refine ⟨i + 1, by go_num, by omega, Lib.hid ?_, Lib.hid ?_, Lib.hid ?_⟩
     ·rw [HCF.out]; exact blk_set (blk_set k1 0 _) 1 _
     ·exact (heap_set_neI (show g ≠ X5 by omega)).trans ((heap_set_neI (show g ≠ X5 by omega)).trans k2)
     ·exact (k3.setCell (Nat.le_refl _) _).setCell (Nat.le_refl _) _
    case measure => simp [intOf]; omega
  ·obtain rfl : i = nb := by omega
   obtain ⟨y0, y1, _⟩ := blkc2 K5.out
   have hfb := HFB.out i (Nat.le_refl _)
   have HSZ := Lib.hid (fun (W : World) => t_size_any (cirF m ⟨vo, lo, hi, ci, br, re⟩ s i).1 (cirF m ⟨vo, lo, hi, ci, br, re⟩ s i).2 W (by omega) (by omega))
   generalize cirF m ⟨vo, lo, hi, ci, br, re⟩ s i = F at *
   obtain ⟨fn, fd⟩ := F
   clear hfb
   simp only at HSZ HV
   have h4w : w.heap.size ≤ X4 := by have := HX.out.2; omega
   go_wp2_with fail
   refine (HSZ.out _).mono ?_
   rintro e7 w7 ⟨rfl, hb7⟩
   have k47 := K4r.out.below hb7
   have f0 := blk_fz k47 0
   have f1 := blk_fz k47 1
   obtain ⟨z0, z1, l47⟩ := blkc2 k47
   have HB7 := bwt HBw hb7
   have HK := Lib.hid k47
   clear hb7 k47
   go_wp2
   obtain ⟨W3, hW3⟩ : ∃ W3, W3 = (w7.setCell ⟨X4, 0, none⟩ (.int .i64 (sz fn))).setCell ⟨X4, 1, none⟩ (.int .i64 fd) := ⟨_, rfl⟩
   rw [← hW3]
   have kw : W3.heap[X4]? = some (.cells #[.int .i64 (sz fn), .int .i64 fd] 85) := by rw [hW3]; exact blk_set (blk_set HK.out 0 _) 1 _
   obtain ⟨r0, r1, _⟩ := blkc2 kw
   refine bodyPost_ret (v := .agg #[.int .i64 (sz fn), .int .i64 fd]) (by simp [results, Tryz.results91, go_sem, r0, r1]) rfl ⟨by rw [HV.out], ?_⟩
   rw [hW3]
   exact Below.setCell (Below.setCell HB7.out h4w _) h4w _
/- A region that draws its order, by a schedule whose last operation comes behind all others: what the heads read need not stand behind it. -/
section
variable {P : Program} {ops : Array Oper} {md : Region.Mode} {S : World → Prop} {Q : Exit → Act → World → Prop} {z : Nat}
def waitsB (md : Region.Mode) (ops : Array Oper) (z i : Nat) : Bool :=
 match ops[z]? with | some oz => oz.after.any (fun e => Region.binds md e && decide (e.on = i)) | none => false
theorem waitsB_spec {i : Nat} (h : waitsB md ops z i = true) : ∃ oz, ops[z]? = some oz ∧ ∃ e ∈ oz.after, Region.binds md e = true ∧ e.on = i := by
 unfold waitsB at h
 split at h
 ·rename_i oz hz
  rw [Array.any_eq_true'] at h
  obtain ⟨e, he, hb⟩ := h
  simp only [Bool.and_eq_true, decide_eq_true_eq] at hb
  exact ⟨oz, hz, e, he, hb.1, hb.2⟩
 ·cases h
end
section
variable {P : Program} {B : Nat}
theorem tailZ_end {Q : Exit → Act → World → Prop} {K : Act → World → Prop} {a : Act} {w : World} (hk : K a w) : tailQ (fun _ => True) Q K .normal a w := ⟨trivial, hk⟩
end
end Go.Proofs.YtdjinmieogpgcaaGreat
/- A region that draws its order, by a schedule whose last operations come behind all others: what the heads read need not stand behind them. -/
namespace Go.Proofs.YtdjinmieogpgcaaGreat
open Go.RowKit
section
variable {P : Program} {ops : Array Oper} {md : Region.Mode} {S : World → Prop} {Q : Exit → Act → World → Prop} {Z : List Nat}
def wpAnyY (P : Program) (md : Region.Mode) (ops : Array Oper) (Q : Exit → Act → World → Prop) (S : World → Prop) (Z : List Nat) : Nat → Array Bool → Act → World → Prop
 | 0, listed, a, w => Region.ready md ops listed = [] ∧ Q .normal a w
 | m + 1, listed, a, w => (Region.ready md ops listed = [] → Q .normal a w) ∧
     ∀ i ∈ Region.ready md ops listed, wpOp P ops Q i (fun a' w' => (i ∈ Z ∨ (S w → S w')) ∧ wpAnyY P md ops Q S Z m (listed.setIfInBounds i true) a' w') a w
theorem any_of_Y : ∀ (m : Nat) (listed : Array Bool) (a : Act) (w : World), wpAnyY P md ops Q S Z m listed a w → wpAny P md ops Q m listed a w
 | 0, _, _, _, h => h
 | m + 1, _, _, _, h => ⟨h.1, fun i hi => wpOp_mono (fun a' w' hh => any_of_Y m _ a' w' hh.2) (h.2 i hi)⟩
theorem anyY_first {i : Nat} {oi : Oper} {v : Value} (hi : ops[i]? = some oi) (hsel : ∀ (j : Nat) (o : Oper) cs b, ops[j]? = some o → o.op ≠ .select cs b)
    (hQ : ∀ c a w, Q (.panic c) (a.put oi.dst v) w → Q (.panic c) a w) (bk : List Nat) (hbk : ∀ k ∈ bk, ∃ ok, ops[k]? = some ok ∧ ∃ e ∈ ok.after, Region.binds md e = true ∧ (e.on = i ∨ e.on ∈ bk)) (hz : ∀ z ∈ Z, z ∈ bk) :
    ∀ (m : Nat) (listed : Array Bool) (a : Act) (w : World), (∀ k ∈ bk, listed.getD k true = false) →
     (∀ j oj, ops[j]? = some oj → j ≠ i → listed.getD j true = false → (∀ e ∈ oj.after, Region.binds md e = true → e.on ≠ i) → oi.apart ops oj = true) →
     i ∈ Region.ready md ops listed → YieldsIf P ops S oi v a → S w →
     wpAnyY P md ops Q S Z m (listed.setIfInBounds i true) (a.put oi.dst v) w → wpAnyY P md ops Q S Z (m + 1) listed a w := by
 intro m
 induction m with
 | zero =>
  intro listed a w hun _ hr hy hS H
  refine ⟨fun h => (by rw [h] at hr; cases hr), fun j hj => ?_⟩
  by_cases hji : j = i
  ·subst hji; exact hy.wpOp hi hS ⟨.inr (fun _ => hS), H⟩
  ·have := ready_mono hj hji
   rw [H.1] at this
   cases this
 | succ m ih =>
  intro listed a w hun hfree hr hy hS H
  refine ⟨fun h => (by rw [h] at hr; cases hr), fun j hj => ?_⟩
  by_cases hji : j = i
  ·subst hji; exact hy.wpOp hi hS ⟨.inr (fun _ => hS), H⟩
  ·have h1 := H.2 j (ready_mono hj hji)
   obtain ⟨hjun, oj, hoj, hall⟩ := mem_ready.1 hj
   have hnot : ∀ e ∈ oj.after, Region.binds md e = true → e.on ≠ i := fun e he hb heq => by
    have h1 := hall e he hb
    have h0 := (mem_ready.1 hr).1
    rw [heq] at h1
    rcases Nat.lt_or_ge i listed.size with h' | h'
    ·simp [h'] at h0 h1; rw [h0] at h1; cases h1
    ·simp [Array.getElem?_eq_none h'] at h1
   have hjb : j ∉ bk := by
    intro hjB
    obtain ⟨ok, hok, e, he, hb, hon⟩ := hbk j hjB
    rw [hok] at hoj
    cases hoj
    rcases hon with hon | hon
    ·exact hnot e he hb hon
    ·have h1 := hall e he hb
     have h0 := hun _ hon
     generalize e.on = q at h0 h1
     rcases Nat.lt_or_ge q listed.size with h' | h'
     ·simp [h'] at h0 h1; rw [h0] at h1; cases h1
     ·simp [Array.getElem?_eq_none h'] at h1
   have hjz : j ∉ Z := fun h => hjb (hz j h)
   have hun' : ∀ k ∈ bk, (listed.setIfInBounds j true).getD k true = false := fun k hk => by
    rw [getD_set_ne true (i := j) (j := k) (by rintro rfl; exact hjb hk)]; exact hun k hk
   have h2 := wpOp_putIf hoj (hfree j oj hoj hji hjun hnot) (fun cs b => hsel i oi cs b hi) (fun cs b => hsel j oj cs b hoj) hQ hy h1
   have hfree' : ∀ k ok, ops[k]? = some ok → k ≠ i → (listed.setIfInBounds j true).getD k true = false →
       (∀ e ∈ ok.after, Region.binds md e = true → e.on ≠ i) → oi.apart ops ok = true := fun k ok hk hki hun hno => by
    refine hfree k ok hk hki ?_ hno
    by_cases hjk : j = k
    ·subst hjk; exact hjun
    ·rw [getD_set_ne true hjk] at hun; exact hun
   refine wpOp_mono (fun a' w' h3 => ?_) h2
   rcases h3.2.1 with hq | hSw
   ·exact absurd hq hjz
   ·replace hSw := hSw hS
    refine ⟨.inr (fun _ => hSw), ih (listed.setIfInBounds j true) a' w' hun' hfree' (ready_mono hr (Ne.symm hji)) h3.1 hSw ?_⟩
    rw [Array.setIfInBounds_comm _ _ hji]
    exact h3.2.2
def pureOp (o : Oper) : Bool := match o.op with | .move _ => true | _ => false
theorem yields_pure {o : Oper} {v : Value} {a : Act} {w : World} (hp : pureOp o = true) (hS : S w) (h : YieldsIf P ops S o v a) : YieldsIf P ops (fun _ => True) o v a := by
 rcases h with ⟨h1, h2⟩ | h
 ·refine .inl ⟨h1, fun w' _ => ?_⟩
  have h3 := h2 w hS
  unfold pureOp at hp
  split at hp
  ·rename_i x hx
   simp only [execOp, hx] at h3 ⊢
   first | (simp at h3 ⊢; exact h3) | (simpa using h3)
  ·cases hp
 ·exact .inr h
theorem anyY_pure {i : Nat} {oi : Oper} {v : Value} (hi : ops[i]? = some oi) (hsel : ∀ (j : Nat) (o : Oper) cs b, ops[j]? = some o → o.op ≠ .select cs b)
    (hQ : ∀ c a w, Q (.panic c) (a.put oi.dst v) w → Q (.panic c) a w) :
    ∀ (m : Nat) (listed : Array Bool) (a : Act) (w : World),
     (∀ j oj, ops[j]? = some oj → j ≠ i → listed.getD j true = false → (∀ e ∈ oj.after, Region.binds md e = true → e.on ≠ i) → oi.apart ops oj = true) →
     i ∈ Region.ready md ops listed → YieldsIf P ops (fun _ => True) oi v a →
     wpAnyY P md ops Q S Z m (listed.setIfInBounds i true) (a.put oi.dst v) w → wpAnyY P md ops Q S Z (m + 1) listed a w := by
 intro m
 induction m with
 | zero =>
  intro listed a w hfree hr hy H
  refine ⟨fun h => (by rw [h] at hr; cases hr), fun j hj => ?_⟩
  by_cases hji : j = i
  ·subst hji; exact hy.wpOp hi trivial ⟨.inr id, H⟩
  ·have := ready_mono hj hji
   rw [H.1] at this
   cases this
 | succ m ih =>
  intro listed a w hfree hr hy H
  refine ⟨fun h => (by rw [h] at hr; cases hr), fun j hj => ?_⟩
  by_cases hji : j = i
  ·subst hji; exact hy.wpOp hi trivial ⟨.inr id, H⟩
  ·have h1 := H.2 j (ready_mono hj hji)
   obtain ⟨hjun, oj, hoj, hall⟩ := mem_ready.1 hj
   have hnot : ∀ e ∈ oj.after, Region.binds md e = true → e.on ≠ i := fun e he hb heq => by
    have h1 := hall e he hb
    have h0 := (mem_ready.1 hr).1
    rw [heq] at h1
    rcases Nat.lt_or_ge i listed.size with h' | h'
    ·simp [h'] at h0 h1; rw [h0] at h1; cases h1
    ·simp [Array.getElem?_eq_none h'] at h1
   have h2 := wpOp_putIf hoj (hfree j oj hoj hji hjun hnot) (fun cs b => hsel i oi cs b hi) (fun cs b => hsel j oj cs b hoj) hQ hy h1
   have hfree' : ∀ k ok, ops[k]? = some ok → k ≠ i → (listed.setIfInBounds j true).getD k true = false →
       (∀ e ∈ ok.after, Region.binds md e = true → e.on ≠ i) → oi.apart ops ok = true := fun k ok hk hki hun hno => by
    refine hfree k ok hk hki ?_ hno
    by_cases hjk : j = k
    ·subst hjk; exact hjun
    ·rw [getD_set_ne true hjk] at hun; exact hun
   refine wpOp_mono (fun a' w' h3 => ?_) h2
   refine ⟨h3.2.1, ih (listed.setIfInBounds j true) a' w' hfree' (ready_mono hr (Ne.symm hji)) h3.1 ?_⟩
   rw [Array.setIfInBounds_comm _ _ hji]
   exact h3.2.2
def wpEnds (P : Program) (ops : Array Oper) (Q : Exit → Act → World → Prop) : List Oper → Act → World → Prop
 | [], a, w => Q .normal a w
 | o :: r, a, w => wpList P ops (tailQ (fun _ => True) Q (wpEnds P ops Q r)) [o] a w
def wpTailY (P : Program) (ops : Array Oper) (S : World → Prop) (Q : Exit → Act → World → Prop) (e : List Oper) : List Oper → Act → World → Prop
 | [], a, w => wpEnds P ops Q e a w
 | o :: r, a, w => wpList P ops (tailQ S Q (wpTailY P ops S Q e r)) [o] a w
theorem ends_anyY : ∀ (zs : List Nat) (listed : Array Bool) (a : Act) (w : World), tailB md ops zs listed = true → (∀ t ∈ zs, t < ops.size) → (∀ t ∈ zs, t ∈ Z) →
    wpEnds P ops Q (zs.filterMap (ops[·]?)) a w → wpAnyY P md ops (NoPanic Q) S Z zs.length listed a w
 | [], listed, a, w, hB, _, _, h => by
  simp only [tailB, decide_eq_true_eq] at hB
  exact ⟨hB, h⟩
 | t :: ts, listed, a, w, hB, hlt, hl, h => by
  simp only [tailB, Bool.and_eq_true, decide_eq_true_eq] at hB
  have ht := hlt t (by simp)
  have ho : ops[t]? = some ops[t] := by simp [ht]
  rw [List.filterMap_cons_some ho] at h
  refine ⟨fun h0 => absurd (hB.1 ▸ h0) (by simp), fun i hi => ?_⟩
  have hit : i = t := by rw [hB.1] at hi; simpa using hi
  subst hit
  refine wpOp_mono (fun a' w' hh => ⟨.inl (hl i (by simp)), ?_⟩) (wpOp_of_tail (S := fun _ => True) ho h)
  exact ends_anyY ts _ a' w' hB.2 (fun x hx => hlt x (by simp [hx])) (fun x hx => hl x (by simp [hx])) hh.2
theorem tail_anyY (zs : List Nat) (hzl : ∀ t ∈ zs, t < ops.size) (hz : ∀ t ∈ zs, t ∈ Z) : ∀ (ts : List Nat) (listed : Array Bool) (a : Act) (w : World), tailB md ops (ts ++ zs) listed = true → (∀ t ∈ ts, t < ops.size) →
    wpTailY P ops S Q (zs.filterMap (ops[·]?)) (ts.filterMap (ops[·]?)) a w → wpAnyY P md ops (NoPanic Q) S Z (ts ++ zs).length listed a w
 | [], listed, a, w, hB, _, h => ends_anyY zs listed a w hB hzl hz h
 | t :: ts, listed, a, w, hB, hlt, h => by
  simp only [List.cons_append, tailB, Bool.and_eq_true, decide_eq_true_eq] at hB
  have ht := hlt t (by simp)
  have ho : ops[t]? = some ops[t] := by simp [ht]
  rw [List.filterMap_cons_some ho] at h
  refine ⟨fun h0 => absurd (hB.1 ▸ h0) (by simp), fun i hi => ?_⟩
  have hit : i = t := by rw [hB.1] at hi; simpa using hi
  subst hit
  refine wpOp_mono (fun a' w' hh => ⟨.inr (fun _ => hh.1), ?_⟩) (wpOp_of_tail ho h)
  exact tail_anyY zs hzl hz ts _ a' w' hB.2 (fun x hx => hlt x (by simp [hx])) hh.2
def blocked (md : Region.Mode) (ops : Array Oper) (x : Nat) : List Nat → List Nat → List Nat
 | acc, [] => acc
 | acc, t :: ts => blocked md ops x (if (x :: acc).any (fun k => waitsB md ops t k) then t :: acc else acc) ts
theorem blocked_spec (x : Nat) : ∀ (l acc : List Nat), (∀ k ∈ acc, ∃ ok, ops[k]? = some ok ∧ ∃ e ∈ ok.after, Region.binds md e = true ∧ (e.on = x ∨ e.on ∈ acc)) →
    (∀ k ∈ blocked md ops x acc l, ∃ ok, ops[k]? = some ok ∧ ∃ e ∈ ok.after, Region.binds md e = true ∧ (e.on = x ∨ e.on ∈ blocked md ops x acc l)) ∧ (∀ k ∈ blocked md ops x acc l, k ∈ acc ∨ k ∈ l)
 | [], acc, h => ⟨h, fun k hk => .inl hk⟩
 | t :: l, acc, h => by
  simp only [blocked]
  split
  ·rename_i ht
   obtain ⟨h1, h2⟩ := blocked_spec x l (t :: acc) (fun k hk => by
    rcases List.mem_cons.1 hk with rfl | hk
    ·rw [List.any_eq_true] at ht
     obtain ⟨q, hq, hw⟩ := ht
     obtain ⟨oz, hoz, e, he, hb, hon⟩ := waitsB_spec hw
     refine ⟨oz, hoz, e, he, hb, ?_⟩
     rcases List.mem_cons.1 hq with rfl | hq
     ·exact .inl hon
     ·exact .inr (by rw [hon]; simp [hq])
    ·obtain ⟨ok, hok, e, he, hb, hon⟩ := h k hk
     exact ⟨ok, hok, e, he, hb, hon.imp id (fun h => by simp [h])⟩)
   refine ⟨h1, fun k hk => ?_⟩
   rcases h2 k hk with h3 | h3
   ·rcases List.mem_cons.1 h3 with rfl | h3
    ·exact .inr (by simp)
    ·exact .inl h3
   ·exact .inr (by simp [h3])
  ·obtain ⟨h1, h2⟩ := blocked_spec x l acc h
   exact ⟨h1, fun k hk => (h2 k hk).imp id (fun h => by simp [h])⟩
def headsY (md : Region.Mode) (ops : Array Oper) (ts zs : List Nat) : List Nat → Bool
 | [] => true
 | x :: hs => (zs.all (fun z => (blocked md ops x [] (hs ++ (ts ++ zs))).contains z) || (match ops[x]? with | some o => pureOp o | none => false)) && !(hs ++ (ts ++ zs)).contains x && headsY md ops ts zs hs
theorem head_anyY (hsel : Region.noSelect ops = true) (ts zs : List Nat) (hlt : ∀ t ∈ ts, t < ops.size) (hzl : ∀ t ∈ zs, t < ops.size) : ∀ (hs : List Nat) (listed : Array Bool) (a : Act) (w : World), schedB md ops (ts ++ zs) hs listed = true → (∀ t ∈ hs, t < ops.size) → headsY md ops ts zs hs = true → (∀ t ∈ hs ++ (ts ++ zs), listed.getD t true = false) → S w →
    wpQuiet P ops S (fun a' => wpTailY P ops S Q (zs.filterMap (ops[·]?)) (ts.filterMap (ops[·]?)) a' w) (hs.filterMap (ops[·]?)) a → wpAnyY P md ops (NoPanic Q) S zs (hs.length + (ts ++ zs).length) listed a w
 | [], listed, a, w, hB, _, _, _, hS, h => by
  rw [List.length_nil, Nat.zero_add]
  exact tail_anyY zs hzl (fun _ h => h) ts listed a w (by simpa only [schedB] using hB) hlt h
 | x :: hs, listed, a, w, hB, hlh, hwt, hun, hS, h => by
  simp only [schedB, Bool.and_eq_true] at hB
  simp only [headsY, Bool.and_eq_true, Bool.or_eq_true, List.all_eq_true] at hwt
  obtain ⟨⟨hw1, hw2⟩, hw3⟩ := hwt
  have hdis : x ∉ hs ++ (ts ++ zs) := fun hm => by
   rw [List.contains_iff_mem.2 hm] at hw2; cases hw2
  have hx := hlh x (by simp)
  have ho : ops[x]? = some ops[x] := by simp [hx]
  rw [List.filterMap_cons_some ho] at h
  rw [ho] at hB
  have hst : qOp P ops S x (wpQuiet P ops S (fun a' => wpTailY P ops S Q (zs.filterMap (ops[·]?)) (ts.filterMap (ops[·]?)) a' w) (hs.filterMap (ops[·]?))) a := by unfold qOp; simp only [ho]; exact h
  obtain ⟨v, hy, hK⟩ := yieldsIn_of_qOp ho hst
  rw [List.length_cons, show hs.length + 1 + (ts ++ zs).length = (hs.length + (ts ++ zs).length) + 1 by omega]
  obtain ⟨hb1, hb2⟩ := blocked_spec (md := md) (ops := ops) x (hs ++ (ts ++ zs)) [] (by simp)
  have hrest := head_anyY hsel ts zs hlt hzl hs _ _ w hB.2 (fun y hy => hlh y (by simp [hy])) hw3
      (fun t ht => by rw [getD_set_ne true (i := x) (j := t) (by rintro rfl; exact hdis ht)]; exact hun t (List.mem_cons_of_mem _ ht)) hS hK
  rcases hw1 with hw1 | hw1
  ·exact anyY_first ho (Region.noSelect_spec hsel) (fun _ _ _ h => h.elim) (blocked md ops x [] (hs ++ (ts ++ zs))) hb1 (fun z hz => List.contains_iff_mem.1 (hw1 z hz)) _ _ _ _ (fun k hk => hun k (List.mem_cons_of_mem _ ((hb2 k hk).elim (fun h => by simp at h) id))) (Region.free_spec ho hB.1.1.2) (by simpa using hB.1.1.1) (yieldsIf_of_in hB.1.2 hy) hS hrest
  ·rw [ho] at hw1
   exact anyY_pure ho (Region.noSelect_spec hsel) (fun _ _ _ h => h.elim) _ _ _ _ (Region.free_spec ho hB.1.1.2) (by simpa using hB.1.1.1) (yields_pure hw1 hS (yieldsIf_of_in hB.1.2 hy)) hrest
def schedOkY (ops : Array Oper) (hs ts zs : List Nat) : Bool :=
 schedOk ops hs (ts ++ zs) && headsY .any ops ts zs hs
theorem wp_region_schedY {id : Nat} {a : Act} {w : World} {l : List Oper} (hs ts zs : List Nat) (S : World → Prop) (hm : P.follows .mixedOrders = true) (hB : schedOkY l.toArray hs ts zs = true) (hS : S w.drew)
    (h : wpQuiet P l.toArray S (fun a' => wpTailY P l.toArray S Q (zs.filterMap (l[·]?)) (ts.filterMap (l[·]?)) a' w.drew) (hs.filterMap (l[·]?)) a) : (Code.region id l.toArray true).wp P Q a w := by
 simp only [schedOkY, schedOk, Bool.and_eq_true, decide_eq_true_eq, List.all_eq_true] at hB
 obtain ⟨⟨⟨⟨⟨h1, h2⟩, h3⟩, h4⟩, h5⟩, h7⟩ := hB
 refine wp_region_noPanic (wp_region_any hm ?_)
 have h4' : ∀ t ∈ ts ++ zs, t < l.toArray.size := fun t ht => by simpa using h4 t ht
 have hrep : ∀ t ∈ hs ++ (ts ++ zs), (Array.replicate l.toArray.size false).getD t true = false := fun t ht => by
  have : t < l.toArray.size := by
   rcases List.mem_append.1 ht with h | h
   ·simpa using h3 t h
   ·exact h4' t h
  simp at this
  simp [this]
 rw [← h2] at h5 ⊢
 refine any_of_Y (S := S) (Z := zs) _ _ _ _ ?_
 rw [← h2] at hrep
 exact head_anyY h1 ts zs (fun t ht => h4' t (by simp [ht])) (fun t ht => h4' t (by simp [ht])) hs _ a _ h5 (fun t ht => by simpa using h3 t ht) h7 hrep hS (by simpa using h)
end
section
variable {P : Program} {B : Nat}
theorem wp_region_laterY {id : Nat} {Q : Exit → Act → World → Prop} {a : Act} {w : World} {l : List Oper} (hs ts zs : List Nat) (hm : P.follows .mixedOrders = true) (hB : schedOkY l.toArray hs ts zs = true)
    (h : wpQuiet P l.toArray (fun w' => ∃ u : LaterB B w, w' = u.world) (fun a' => wpTailY P l.toArray (fun w' => ∃ u : LaterB B w, w' = u.world) Q (zs.filterMap (l[·]?)) (ts.filterMap (l[·]?)) a' w.drew) (hs.filterMap (l[·]?)) a) : (Code.region id l.toArray true).wp P Q a w :=
 wp_region_schedY hs ts zs _ hm hB ⟨⟨_, (Below.refl B w).drew⟩, rfl⟩ h
theorem tailY_cons {ops : Array Oper} {S : World → Prop} {Q : Exit → Act → World → Prop} {o : Oper} {r e : List Oper} {a : Act} {w : World} (h : wpList P ops (tailQ S Q (wpTailY P ops S Q e r)) [o] a w) : wpTailY P ops S Q e (o :: r) a w := h
theorem tailY_ends {ops : Array Oper} {S : World → Prop} {Q : Exit → Act → World → Prop} {e : List Oper} {a : Act} {w : World} (h : wpEnds P ops Q e a w) : wpTailY P ops S Q e [] a w := h
theorem ends_cons {ops : Array Oper} {Q : Exit → Act → World → Prop} {o : Oper} {r : List Oper} {a : Act} {w : World} (h : wpList P ops (tailQ (fun _ => True) Q (wpEnds P ops Q r)) [o] a w) : wpEnds P ops Q (o :: r) a w := h
theorem ends_nil {ops : Array Oper} {Q : Exit → Act → World → Prop} {a : Act} {w : World} (h : Q .normal a w) : wpEnds P ops Q [] a w := h
end
end Go.Proofs.YtdjinmieogpgcaaGreat
