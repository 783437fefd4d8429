import Derived.Deep.QuietTactic
import Derived.LoopNIn
import Derived.LoopIn
import Derived.Shelf.RegionOpen
import Derived.Deep.CutRange
import Derived.Test.YtdjinmieogpgcaaGreatMTOpen
/- What is walked plainly holds in a round of a range over a function, where no operation is a defer statement. -/
namespace Go.Proofs.YtdjinmieogpgcaaGreat
open Go.RowKit
set_option linter.unusedVariables false
section
variable {P : Program} {ops : Array Oper} {Q : Exit → Act → World → Prop} {l n : Nat}
theorem rowsIn_round {row : String} {args : Array Value} {w : World} {R : Value → World → Prop} (h : Rows P row args w R) : RowsIn (Fence.wide.inRound l) n P row args w R :=
 fun c cs _ => let ⟨v, w', r, s⟩ := h c cs; ⟨v, w', r, stepsIn_wide.2 s⟩
theorem wpIn_of_wp {o : Oper} {K : Act → World → Prop} {a : Act} {w : World} (hd : ∀ c, o.op ≠ .defer c) (h : o.wp P a w K Q) : o.wpIn (Fence.wide.inRound l) n P a w K Q := by
 refine ⟨fun _ _ => trivial, ?_⟩
 show o.uponIn (Fence.wide.inRound l) n P a K Q ((o.semAt (some l) a.eval).run P w)
 rw [Oper.semAt_some l a.eval o hd]
 unfold Oper.wp at h
 generalize (execOp a.eval o).run P w = r at *
 have hdp : ((Fence.wide.inRound l).depth.isSome = true → 1 ≤ n) := fun h => by cases h
 cases r with
 | ok x w' =>
  cases x with
  | value v => exact h
  | skip => exact h
  | «defer» d => exact h
  | enter f args => exact ⟨hdp, callsIn_wide.2 h⟩
  | row r args => exact ⟨hdp, rowsIn_round h⟩
  | _ => exact h.elim
 | halt x w' => cases x <;> first | exact h | exact h.elim
theorem opIn_of_op {i : Nat} {K : Act → World → Prop} {a : Act} {w : World} (hd : ∀ o, ops[i]? = some o → ∀ c, o.op ≠ .defer c) (hq : ¬ LetsOut Q) (h : wpOp P ops Q i K a w) : wpOpIn (Fence.wide.inRound l) n P ops Q i K a w := by
 unfold wpOp at h
 unfold wpOpIn
 cases ho : ops[i]? with
 | none => rw [ho] at h; exact h
 | some o =>
  rw [ho] at h
  simp only at h ⊢
  split at h
  ·rename_i hw
   rw [if_pos hw]
   rcases h with h | h
   ·exact wpIn_of_wp (hd o ho) h
   ·exact absurd h.2 hq
  ·rename_i hw
   rw [if_neg hw]
   exact ⟨fun _ _ => trivial, h⟩
theorem anyIn_of_any {md : Region.Mode} (hd : ∀ (i : Nat) (o : Oper), ops[i]? = some o → ∀ c, o.op ≠ .defer c) (hq : ¬ LetsOut Q) : ∀ (fuel : Nat) (listed : Array Bool) (a : Act) (w : World), wpAny P md ops Q fuel listed a w → wpAnyIn (Fence.wide.inRound l) n P md ops Q fuel listed a w
 | 0, _, _, _, h => h
 | fuel + 1, listed, a, w, h => ⟨h.1, fun i hi => opIn_of_op (hd i) hq (wpOp_mono (fun a' w' hh => anyIn_of_any hd hq fuel _ a' w' hh) (h.2 i hi))⟩
def noDeferB (ops : List Oper) : Bool := ops.all (fun (o : Oper) => match o.op with | .defer _ => false | _ => true)
theorem noDefer_spec {ops : List Oper} (h : noDeferB ops = true) : ∀ (i : Nat) (o : Oper), ops.toArray[i]? = some o → ∀ c, o.op ≠ .defer c := fun i o ho c hc => by
 have hm : o ∈ ops := by
  rw [List.getElem?_toArray] at ho
  exact List.mem_of_getElem? ho
 have := List.all_eq_true.1 h o hm
 rw [hc] at this
 cases this
theorem region_in_round {id : Nat} {a : Act} {w : World} {ops : List Oper} (hm : P.follows .mixedOrders = true) (hd : noDeferB ops = true) (hq : ¬ LetsOut Q)
    (h : wpAny P .any ops.toArray Q ops.toArray.size (Array.replicate ops.toArray.size false) a w.drew) : (Code.region id ops.toArray true).wpIn (Fence.wide.inRound l) n P Q a w :=
 wpIn_region_any hm (anyIn_of_any (noDefer_spec hd) hq _ _ _ _ h)
theorem any_of_quiet_tail {C : World → Prop} {a : Act} {w : World} {l : List Oper} (n : Nat) (hB : Region.lexTailB .any l.toArray n = true) (hC : C w)
    (h : wpQuiet P l.toArray C (fun a' => ∀ w', C w' → wpList P l.toArray Q (l.drop n) a' w') (l.take n) a) : wpAny P .any l.toArray Q l.toArray.size (Array.replicate l.toArray.size false) a w := by
 simp only [Region.lexTailB, Bool.and_eq_true, decide_eq_true_eq] at hB
 obtain ⟨⟨⟨⟨hsel, hn⟩, hs⟩, hc⟩, hlex⟩ := hB
 have hn' : n < l.length := by simpa using hn
 have htl : (l.take n).length = n := by simp; omega
 have hdl : (l.drop n).length = l.toArray.size - n := by simp
 have inv0 : HeadInv .any l.toArray n (Array.replicate l.toArray.size false) :=
  ⟨by simp, fun j oj _ hl => (by rw [getD_replicate_false] at hl; cases hl), fun t _ ht => getD_in (by simpa using ht) (getD_replicate_false _ _)⟩
 have H := headQ_lex (md := .any) (C := C) (g := l.toArray.size - n) hsel hs hc hn (l.take n) 0 _ a (fun j hj => by
  have hj' : j < n := by rw [htl] at hj; exact hj
  simp [hj']) (by simpa using htl) inv0 (by rw [htl]; exact hlex) h
 have := any_of_headQ (Q' := Q) (g := l.toArray.size - n) (fun listed a' w' hw' hL => by
  have := wpAny_of_seq (md := .any) (Q' := Q) (l.drop n) n listed a' w' (fun j => by simp [List.getElem?_drop]) (by rw [hdl]; exact hL.1) (hL.2 w' hw')
  rwa [hdl] at this) _ _ _ _ hC H
 rw [htl, show n + (l.toArray.size - n) = l.toArray.size by omega] at this
 exact this
theorem round_later_tail {l n : Nat} {id : Nat} {a : Act} {w : World} {ops : List Oper} (m : Nat) (hm : P.follows .mixedOrders = true) (hd : noDeferB ops = true) (hq : ¬ LetsOut Q) (hB : Region.lexTailB .any ops.toArray m = true)
    (h : wpQuiet P ops.toArray (fun w' => ∃ u : Later w, w' = u.world) (fun a' => ∀ w', Below w.heap.size w w' → wpList P ops.toArray Q (ops.drop m) a' w') (ops.take m) a) : (Code.region id ops.toArray true).wpIn (Fence.wide.inRound l) n P Q a w :=
 region_in_round hm hd hq (any_of_quiet_tail (C := fun w' => ∃ u : Later w, w' = u.world) m hB ⟨⟨_, (Below.refl _ _).drew⟩, rfl⟩ (wpQuiet_mono (fun a' hh w' hw' => by obtain ⟨u, rfl⟩ := hw'; exact hh _ u.below) _ _ h))
theorem not_out_two {l : Nat} {rec : Loop} {R : Ending → World → Prop} : ¬ LetsOut (twoPost P l rec R) := fun ⟨_, _, h⟩ => h
theorem not_out_then {K : Act → World → Prop} {Q : Exit → Act → World → Prop} (h : ¬ LetsOut Q) : ¬ LetsOut (Exit.then K Q) := fun ⟨a, w, h'⟩ => h ⟨a, w, h'⟩
theorem not_out_block {k : Nat} {Q : Exit → Act → World → Prop} (h : ¬ LetsOut Q) : ¬ LetsOut (Exit.inBlock k Q) := fun ⟨a, w, h'⟩ => h ⟨a, w, h'⟩
end
end Go.Proofs.YtdjinmieogpgcaaGreat
/- What a range over a function keeps, in general. -/
namespace Go.Proofs.YtdjinmieogpgcaaGreat
open Go.RowKit Go.Shelf
set_option linter.unusedVariables false
def nats (l : List Nat) : List Int := l.map (fun (x : Nat) => (x : Int))
theorem SameCells.refl (w : World) : SameCells w w := fun _ _ _ _ h => h
theorem SameCells.below {a b c : World} (h : SameCells a b) (h' : Below b.heap.size b c) : SameCells a c := fun k x t z hk => (h'.block k (Array.getElem?_eq_some_iff.1 (h k x t z hk)).1).trans (h k x t z hk)
theorem blk_of_cell {w : World} {b o : Nat} {v : Value} (h : w.cell? ⟨b, o, none⟩ = some v) : ∃ c t z, w.heap[b]? = some (.cells c t z) := by
 unfold World.cell? at h
 cases ho : w.heap[b]? with
 | none => simp [ho] at h
 | some ob => cases ob <;> simp_all
theorem SameCells.cell {w w' : World} (h : SameCells w w') {b o : Nat} {v : Value} (hc : w.cell? ⟨b, o, none⟩ = some v) : w'.cell? ⟨b, o, none⟩ = some v := by
 obtain ⟨c, t, z, hb⟩ := blk_of_cell hc
 have hb' := h _ _ _ _ hb
 unfold World.cell? at hc ⊢
 rw [hb'] ; rw [hb] at hc; exact hc
theorem SlR.same {w w' : World} {a : Option Addr} {n sz : Nat} {xs : List Value} (h : SlR w a n sz xs) (hs : SameCells w w') (hsz : w.heap.size ≤ w'.heap.size) : SlR w' a n sz xs := by
 refine ⟨h.1, h.2.1, fun hn => ?_⟩
 obtain ⟨b, o, ha, hlt, hc⟩ := h.2.2 hn
 exact ⟨b, o, ha, Nat.lt_of_lt_of_le hlt hsz, fun i u hu => hs.cell (hc i u hu)⟩
theorem ER.same {α : Type} {enc : α → List Value} {k : Nat} {w w' : World} {a : Option Addr} {n : Nat} {l : List α} (h : ER enc k w a n l) (hs : SameCells w w') (hsz : w.heap.size ≤ w'.heap.size) : ER enc k w' a n l := ⟨h.1, h.2.same hs hsz⟩
def RInv (lr D : Nat) (rec : Loop) (w wa W : World) : Prop := W.heap[lr]? = some (.loop rec) ∧ W.heap[D]? = some (.deferred (some [])) ∧ SameCells wa W ∧ wa.heap.size ≤ W.heap.size ∧ Below w.heap.size w W
theorem SameCells.put {w w' : World} {l : Nat} {r r' : Loop} (h : SameCells w w') (hl : w'.heap[l]? = some (.loop r)) : SameCells w (w'.putObj l (.loop r')) := fun k c t z hk => by
 have h1 := h k c t z hk
 rw [World.putObj_heap_other (by rintro rfl; rw [hl] at h1; cases h1)]
 exact h1
theorem RInv.ready {lr D : Nat} {rec RB : Loop} {w wa A1 W : World} (h1 : SameCells wa W) (h2 : wa.heap.size ≤ W.heap.size) (h3 : Below w.heap.size w W) (h4 : W.heap[lr]? = some (.loop RB)) (h5 : W.heap[D]? = some (.deferred (some []))) (hw : w.heap.size ≤ lr) : RInv lr D rec w wa (W.putObj lr (.loop rec)) :=
 ⟨World.putObj_heap_same (Array.getElem?_eq_some_iff.1 h4).1, (World.putObj_heap_other (by rintro rfl; rw [h5] at h4; cases h4)).trans h5, h1.put h4, by rw [World.putObj_size]; exact h2, h3.trans (belowK_b (w := w) (Nat.le_refl _) W lr _ _ hw h4 rfl rfl)⟩
def MK (w : World) (Ds : List Nat) (W : World) : Prop := Ds.Nodup ∧ ∀ D ∈ Ds, w.heap.size ≤ D ∧ W.heap[D]? = some (.deferred (some []))
theorem MK.below {w A B : World} {Ds : List Nat} (h : MK w Ds A) (hb : Below A.heap.size A B) : MK w Ds B := ⟨h.1, fun D hD => ⟨(h.2 D hD).1, (hb.block _ (Array.getElem?_eq_some_iff.1 (h.2 D hD).2).1).trans (h.2 D hD).2⟩⟩
theorem MK.put {w A : World} {Ds : List Nat} {l : Nat} {r r' : Loop} (h : MK w Ds A) (hl : A.heap[l]? = some (.loop r)) : MK w Ds (A.putObj l (.loop r')) := ⟨h.1, fun D hD => ⟨(h.2 D hD).1, (World.putObj_heap_other (by rintro rfl; rw [(h.2 D hD).2] at hl; cases hl)).trans (h.2 D hD).2⟩⟩
theorem MK.cons {w A : World} {Ds : List Nat} {D : Nat} (h : MK w Ds A) (hD : A.heap[D]? = some (.deferred (some []))) (hw : w.heap.size ≤ D) (hn : D ∉ Ds) : MK w (D :: Ds) A := ⟨List.nodup_cons.2 ⟨hn, h.1⟩, fun E hE => by
 rcases List.mem_cons.1 hE with rfl | hE
 ·exact ⟨hw, hD⟩
 ·exact h.2 E hE⟩
theorem own_put {w : World} {base n sz l : Nat} {e : TypeId} {v : Value} {xs : List Value} {r r' : Loop} (h : w.ownsRow base e sz v n xs) (hl : w.heap[l]? = some (.loop r)) : (w.putObj l (.loop r')).ownsRow base e sz v n xs := by
 refine ⟨h.1, ?_⟩
 rcases h.2 with hn | ⟨g, cap, cur, rfl, hbase, hgg, rest⟩
 ·exact .inl hn
 ·refine .inr ⟨g, cap, cur, rfl, hbase, ?_, rest⟩
  rw [World.putObj_heap_other (by rintro rfl; rw [hl] at hgg; cases hgg)]
  exact hgg
theorem own_same {w w' : World} {base n sz : Nat} {e : TypeId} {v : Value} {xs : List Value} (h : w.ownsRow base e sz v n xs) (hs : SameCells w w') : w'.ownsRow base e sz v n xs := by
 refine ⟨h.1, ?_⟩
 rcases h.2 with hn | ⟨g, cap, cur, rfl, hbase, hgg, rest⟩
 ·exact .inl hn
 ·exact .inr ⟨g, cap, cur, rfl, hbase, hs _ _ _ _ hgg, rest⟩
theorem wpListIn_int {F : Fence} {N : Nat} {ops : Array Oper} {rest : List Oper} {o : Oper} {a : Act} {Q : Exit → Act → World → Prop} (w : World) (hgd : o.guard = none) (s x : Operand)
    (ho : o.op = .call { callee := .builtin .append, args := #[s, x], argTypes := #[48, 48] }) (base n B : Nat) (v : Value) (xs : List Value) (u : Int) (hs : a.eval s = v)
    (hown : w.ownsRow base 3 1 v n xs) (hx : a.eval x = .slice (some ⟨B, 0, none⟩) 1 1) (hc : w.cell? ⟨B, 0, none⟩ = some (.int .i64 u)) (hn : n ≤ 1000000) (hbase : base ≤ w.heap.size)
    (h : ∀ v' w', w'.ownsRow base 3 1 v' (n + 1) (xs ++ [.int .i64 u]) → w.grownBy w' v.ownBlock → Below base w w' → wpListIn F N Tryz.prog ops Q rest (a.put o.dst v') w') : wpListIn F N Tryz.prog ops Q (o :: rest) a w := by
 obtain ⟨i, hi1, hi2, hi3, hi4⟩ := info_parts infoInt
 have hmul : (n + 1) * 8 ≤ 1000001 * 8 := Nat.mul_le_mul (by omega) (by omega)
 refine wpListIn_append_own w hgd s x 48 ho base 3 i _ 1 8 Tryz.underlying48 hi1 hi2 hi3 hi4 rfl (by omega) v n xs hs hown ⟨B, 0, none⟩ 1 1 [.int .i64 u] hx (by simp) (fun j u' hu => by
     match j with
     | 0 =>
      simp only [List.getElem?_cons_zero, Option.some.injEq] at hu
      subst hu
      rw [Addr.add_lit, Nat.zero_add]; exact hc
     | j + 1 => simp at hu) (by simp [Value.oneCell']) (by unfold maxLen; omega) (by omega) hbase
  (fun v' w' h2 h3 _ => h v' w' h2 h3 ((Below.refl base w).grown h3 hbase (fun k hk => (hown.lt k hk).1)))
/- The contacts that may change, collected; MovesIn. -/
set_option linter.unusedSimpArgs false
attribute [local go_sem] Oper.semAt_some
theorem cf_moves (args : Array Value) (w : World) : (callFunc 112 args).run Tryz.prog w = .ok (.enter 112 args) w := by kernel_rfl
end Go.Proofs.YtdjinmieogpgcaaGreat
/- MovesIn; the reference's MayChange and Moves. -/
namespace Go.Proofs.YtdjinmieogpgcaaGreat
open Go.RowKit
set_option linter.unusedVariables false
set_option linter.unusedSimpArgs false
theorem moves_any (m : Mac) (s : Nat) (ab ag : Option Addr) (nb cb ng cg : Nat) (w : World) (hg : GrR w ag ng m.gs) :
    Calls Tryz.prog 77 #[.agg #[.slice ab nb cb, .int .i64 m.st, .slice ag ng cg], .int .i64 (s : Int)] w fun e' w' => ∃ XM XS, e' = .returned (.func (.func 112) #[] #[.pointer (some ⟨XM, 0, none⟩), .pointer (some ⟨XS, 0, none⟩)]) ∧ Below w.heap.size w w' ∧ MovW m s XM XS ab ag nb cb ng cg w' := by
 have HG := Lib.hid hg
 clear hg
 go_enter Tryz.func77, Tryz.ntmps77
 go_wp2
 obtain ⟨w1, hW⟩ : ∃ w1, w1 = (w.alloc (Obj.cells #[.slice ab nb cb, .int .i64 m.st, .slice ag ng cg] 98)).alloc (Obj.cells #[.int .i64 (s : Int)] 117) := ⟨_, rfl⟩
 rw [← hW]
 have hb1 : Below w.heap.size w w1 := by rw [hW]; (first|exact bwg|go_size)
 have k1 : w1.heap[w.heap.size]? = some (.cells #[.slice ab nb cb, .int .i64 m.st, .slice ag ng cg] 98) := by rw [hW, Below.heap_alloc _ _ _ (by simp)]; exact heap_alloc_new _ _
 have k2 : w1.heap[w.heap.size + 1]? = some (.cells #[.int .i64 (s : Int)] 117) := by
  rw [hW]
  have := heap_alloc_new (w.alloc (Obj.cells #[.slice ab nb cb, .int .i64 m.st, .slice ag ng cg] 98)) (Obj.cells #[.int .i64 (s : Int)] 117)
  simpa using this
 refine bodyPost_ret (v := .func (.func 112) #[] #[.pointer (some ⟨w.heap.size, 0, none⟩), .pointer (some ⟨w.heap.size + 1, 0, none⟩)]) (by simp [results, Tryz.results77, go_sem]) rfl ⟨_, _, rfl, hb1, k1, k2, HG.out.below hb1⟩
theorem and_eq : ∀ a < 64, ∀ s < 64, (bits .and .i64 ((a : Nat) : Int) ((s : Nat) : Int) == (a : Int)) = decide (a &&& s = a) := by decide +kernel
set_option maxHeartbeats 2000000 in
set_option maxRecDepth 100000 in
theorem rMayChange_any (m : Mac) (s i : Nat) (ab ag : Option Addr) (nb cb ng cg : Nat) (w : World) (hm : MacV m) (hg : GrR w ag ng m.gs) (hs : s < 64) (hi : i < 8) :
    Calls Tryz.prog 28 #[.agg #[.slice ab nb cb, .int .i64 m.st, .slice ag ng cg], .int .i64 (s : Int), .int .i64 (i : Int)] w fun e' w' => e' = .returned (.bool (mayB m s i)) ∧ Below w.heap.size w w' := by
 have hng := hg.small
 have HGR := Lib.hid (fun (W : World) (hbw : Below w.heap.size w W) => hg.below hbw)
 have HLG := Lib.hid hg.len
 have HOK := Lib.hid (grds_ok hm)
 have HH := Lib.hid (fun w' => isClosed_any s i w' hs hi)
 obtain ⟨br, st, gs⟩ := m
 unfold mayB
 simp only at HGR HLG HOK ⊢
 clear hg hm
 go_enter Tryz.func28, Tryz.ntmps28
 go_wp2_with fail
 obtain ⟨w1, hW⟩ : ∃ w1, w1 = w.alloc (Obj.cells #[.slice ab nb cb, .int .i64 st, .slice ag ng cg] 45) := ⟨_, rfl⟩
 rw [← hW]
 have hb1 : Below w.heap.size w w1 := by rw [hW]; (first|exact bwg|go_size)
 have kM : w1.heap[w.heap.size]? = some (.cells #[.slice ab nb cb, .int .i64 st, .slice ag ng cg] 45) := by rw [hW]; exact heap_alloc_new _ _
 have HB1 := Lib.hid hb1
 clear hW hb1
 go_loopw [7] (fun x wr => ∃ k : Nat, x = .int .i64 (k : Int) ∧ k ≤ ng ∧ Hid ((gs.drop k).any (grdB s i) = gs.any (grdB s i)) ∧ Hid (Below w1.heap.size w1 wr)) (fun x _ => ng - (intOf x).toNat)
 case atStart => exact ⟨0, rfl, Nat.zero_le _, Lib.hid rfl, Lib.hid (Below.refl _ _)⟩
 case round =>
  obtain ⟨k, rfl, hk, hF, hB⟩ := hrel
  have k0 : (0 : Int) ≤ (k : Int) := by omega
  have km := blk_below kM hB.out
  by_cases hlt : k < ng
  ·have k1 : (k : Int) < (ng : Int) := by omega
   obtain ⟨bb, ob, rfl, hbb, hcc⟩ := (HGR.out _ (HB1.out.trans (hB.out.mono HB1.out.size))).addr (by omega)
   have q2 : wr.cell? ⟨w.heap.size, 2, none⟩ = some (.slice (some ⟨bb, ob, none⟩) ng cg) := blk_cell km (i := 2) rfl
   have lr0 := blk_lt km
   obtain ⟨g, hx⟩ : ∃ g, gs[k]? = some g := get_of_lt HLG.out hlt
   obtain ⟨c0, c1, c2, c3⟩ := hcc k hlt
   rw [gAt_get hx] at c0 c1 c2 c3
   obtain ⟨ha, hb⟩ := HOK.out g (List.mem_of_getElem? hx)
   have hF' := hF.out
   rw [drop_cons' hx, List.any_cons] at hF'
   obtain ⟨gc, gl, gi, go⟩ := g
   simp only at c0 c1 c2 c3 ha hb
   obtain ⟨a, rfl⟩ : ∃ a : Nat, gi = a := ⟨gi.toNat, by omega⟩
   obtain ⟨b, rfl⟩ : ∃ b : Nat, go = b := ⟨go.toNat, by omega⟩
   have e1 := not_bits a (by omega) s hs
   have e2 := and_bits b (by omega) s hs
   obtain ⟨V, hV⟩ : ∃ V, V = grdB s i ⟨gc, gl, a, b⟩ := ⟨_, rfl⟩
   rw [← hV] at hF'
   have HF := Lib.hid hF'
   have e3 := and_eq a (by omega) s hs
   have hV2 : V = (((gc == (i : Int)) && (!(gl == s.testBit i))) && (bits .and .i64 ((a : Nat) : Int) ((s : Nat) : Int) == (a : Int)) && (bits .and .i64 ((b : Nat) : Int) ((s : Nat) : Int) == 0)) := by
    rw [hV, e3, e2]
    unfold grdB
    simp only [Int.toNat_natCast]
    congr 2
    congr 1
    rw [Bool.eq_iff_iff]; simp
   clear hV e1 e2 e3 hF' hF hx hcc
   obtain ⟨tb, htb⟩ : ∃ b, b = s.testBit i := ⟨_, rfl⟩
   have HHX := Lib.hid (fun w' => show Calls Tryz.prog 64 #[.int .i64 (s : Int), .int .i64 (i : Int)] w' fun e' w'' => e' = .returned (.bool tb) ∧ w' = w'' by rw [htb]; exact HH.out w')
   rw [← htb] at hV2
   clear htb
   obtain ⟨x1, hx1⟩ : ∃ x, x = (gc == (i : Int)) := ⟨_, rfl⟩
   obtain ⟨x2, hx2⟩ : ∃ x, x = (gl == tb) := ⟨_, rfl⟩
   obtain ⟨x3, hx3⟩ : ∃ x, x = (bits .and .i64 ((a : Nat) : Int) ((s : Nat) : Int) == (a : Int)) := ⟨_, rfl⟩
   obtain ⟨x4, hx4⟩ : ∃ x, x = (bits .and .i64 ((b : Nat) : Int) ((s : Nat) : Int) == 0) := ⟨_, rfl⟩
   rw [← hx1, ← hx2, ← hx3, ← hx4] at hV2
   have HV := Lib.hid hV2
   have f1 := hx1.symm
   have f2 := hx2.symm
   have f3 := hx3.symm
   have f4 := hx4.symm
   clear hV2 hx1 hx2 hx3 hx4 km HH
   have HH := HHX
   go_wp2_with fail
   obtain ⟨X6, hX6⟩ : ∃ X, X = wr.heap.size := ⟨_, rfl⟩
   rw [← hX6]
   obtain ⟨wa, hW⟩ : ∃ wa, wa = wr.alloc (Obj.cells #[.int .i64 gc, .bool gl, .int .i64 (a : Int), .int .i64 (b : Int)] 77) := ⟨_, rfl⟩
   rw [← hW]
   have hba : Below wr.heap.size wr wa := by rw [hW]; (first|exact bwg|go_size)
   have k6 : wa.heap[X6]? = some (.cells #[.int .i64 gc, .bool gl, .int .i64 (a : Int), .int .i64 (b : Int)] 77) := by rw [hW, hX6]; exact heap_alloc_new _ _
   have hBa := bwt hB hba
   clear hW hX6 c0 c1 c2 c3 hbb hba hB q2 lr0
   obtain ⟨g0, g1, g2, g3, l6⟩ := blkc4 k6
   clear k6
   cases x1
   ·skip
    refine later_all (by kernel_rfl) (by kernel_rfl) ?_; repeat go_big_quiet_step(with_reducible exact calls_later_same (HH.out _))
    refine wpQuiet_nil ?_; intro w5 hb5
    have hB5 := bwt hBa hb5
    clear hb5 g0 g1 g2 g3 l6
    skip
    go_wp2_with fail
    go_roundw
    case rel => exact ⟨k + 1, by go_num, by omega, Lib.hid (by have e := HF.out; rw [HV.out] at e; first | simpa using e | exact e), hB5⟩
    case measure => simp [intOf]; omega
   ·cases x2
    ·cases x3
     ·skip
      refine later_all (by kernel_rfl) (by kernel_rfl) ?_; repeat go_big_quiet_step(with_reducible exact calls_later_same (HH.out _))
      refine wpQuiet_nil ?_; intro w5 hb5
      have hB5 := bwt hBa hb5
      clear hb5 g0 g1 g2 g3 l6
      skip
      go_wp2_with fail
      go_roundw
      case rel => exact ⟨k + 1, by go_num, by omega, Lib.hid (by have e := HF.out; rw [HV.out] at e; first | simpa using e | exact e), hB5⟩
      case measure => simp [intOf]; omega
     ·cases x4
      ·skip
       refine later_all (by kernel_rfl) (by kernel_rfl) ?_; repeat go_big_quiet_step(with_reducible exact calls_later_same (HH.out _))
       refine wpQuiet_nil ?_; intro w5 hb5
       have hB5 := bwt hBa hb5
       clear hb5 g0 g1 g2 g3 l6
       skip
       go_wp2_with fail
       go_roundw
       case rel => exact ⟨k + 1, by go_num, by omega, Lib.hid (by have e := HF.out; rw [HV.out] at e; first | simpa using e | exact e), hB5⟩
       case measure => simp [intOf]; omega
      ·skip
       refine later_all (by kernel_rfl) (by kernel_rfl) ?_; repeat go_big_quiet_step(with_reducible exact calls_later_same (HH.out _))
       refine wpQuiet_nil ?_; intro w5 hb5
       have hB5 := bwt hBa hb5
       clear hb5 g0 g1 g2 g3 l6
       skip
       go_wp2
       go_ret
       exact ⟨ret_bool (by have e := HF.out; rw [HV.out] at e; rw [← e]; rfl), HB1.out.trans (hB5.out.mono HB1.out.size)⟩
    ·skip
     refine later_all (by kernel_rfl) (by kernel_rfl) ?_; repeat go_big_quiet_step(with_reducible exact calls_later_same (HH.out _))
     refine wpQuiet_nil ?_; intro w5 hb5
     have hB5 := bwt hBa hb5
     clear hb5 g0 g1 g2 g3 l6
     skip
     go_wp2_with fail
     go_roundw
     case rel => exact ⟨k + 1, by go_num, by omega, Lib.hid (by have e := HF.out; rw [HV.out] at e; first | simpa using e | exact e), hB5⟩
     case measure => simp [intOf]; omega
  ·have q2 : wr.cell? ⟨w.heap.size, 2, none⟩ = some (.slice ag ng cg) := blk_cell km (i := 2) rfl
   have lr0 := blk_lt km
   have HE := Lib.hid (show false = gs.any (grdB s i) by rw [← hF.out, drop_end gs k (by rw [HLG.out]; omega)]; rfl)
   clear hF km
   go_wp2
   go_ret
   exact ⟨ret_bool HE.out, HB1.out.trans (hB.out.mono HB1.out.size)⟩
/- All contacts of a set, in a range; the closed contacts without a resistance. -/
open Go.RowKit Go.Shelf
attribute [local go_sem] Oper.semAt_some
def cloU (s i : Nat) : List Nat := (List.range i).filter (fun k => s.testBit k)
theorem cloU_yes {s i : Nat} (h : s.testBit i = true) : cloU s (i + 1) = cloU s i ++ [i] := by unfold cloU; rw [List.range_succ, List.filter_append]; simp [h]
theorem cloU_no {s i : Nat} (h : s.testBit i = false) : cloU s (i + 1) = cloU s i := by unfold cloU; rw [List.range_succ, List.filter_append]; simp [h]
theorem cloU_len (s i : Nat) : (cloU s i).length ≤ i := by
 unfold cloU
 exact Nat.le_trans (List.length_filter_le _ _) (by simp)
theorem cf_all (args : Array Value) (w : World) : (callFunc 99 args).run Tryz.prog w = .ok (.enter 99 args) w := by kernel_rfl
set_option maxHeartbeats 2000000 in
set_option maxRecDepth 100000 in
theorem all_calls (s lr : Nat) (J : List Nat → World → Prop) (Jx : World → Prop) (W : World) (hs : s < 64)
    (hY : ∀ i A, i < 6 → s.testBit i = true → J (cloU s i) A → YieldAt Fence.wide 1 Tryz.prog lr #[.int .i64 (i : Int)] A (fun e B => (e = .returned (.bool true) ∧ J (cloU s i ++ [i]) B) ∨ (e = .returned (.bool false) ∧ Jx B)))
    (h0 : J [] W) :
    Calls Tryz.prog 99 #[.int .i64 (s : Int), .func (.yield lr) #[] #[]] W (fun e B => (∃ v, e = .returned v) ∧ (J (cloU s 6) B ∨ Jx B)) := by
 have HY := Lib.hid hY
 have HH := Lib.hid (fun (i : Nat) (hi : i < 6) w' => has_any s i w' hs (by omega))
 clear hY hs
 go_enter Tryz.func99, Tryz.ntmps99
 go_wp2_with fail
 go_loopw [5] (fun x wr => ∃ i : Nat, x = .int .i64 (i : Int) ∧ i ≤ 6 ∧ Hid (J (cloU s i) wr)) (fun x _ => 6 - (intOf x).toNat)
 case atStart => exact ⟨0, rfl, Nat.zero_le _, Lib.hid h0⟩
 case round =>
  obtain ⟨i, rfl, hi, hJi⟩ := hrel
  have i0 : (0 : Int) ≤ (i : Int) := by omega
  by_cases hlt : i < 6
  ·have i1 : (i : Int) < 6 := by omega
   have HX := Lib.hid (HH.out i hlt)
   obtain ⟨mb, hmb⟩ : ∃ b, b = s.testBit i := ⟨_, rfl⟩
   rw [← hmb] at HX
   have HMB := Lib.hid hmb
   clear hmb
   cases mb
   ·go_wp2_with fail
    refine (HX.out _).mono ?_
    rintro e5 w5 ⟨rfl, rfl⟩
    go_wp2_with fail
    go_roundw
    case rel => exact ⟨i + 1, by go_num, by omega, by rw [cloU_no HMB.out.symm]; exact hJi⟩
    case measure => simp [intOf]; omega
   ·obtain ⟨fn, tmps, assign, body, hy, hR⟩ := HY.out i wr hlt HMB.out.symm hJi.out
    go_upto_region 3 with (fail)
    go_cut [16] from 7 to 16 (fun v21 wx => (v21 = .bool false ∧ J (cloU s i ++ [i]) wx) ∨ (v21 = .bool true ∧ Jx wx))
    case first =>
     refine (wpIn_wide (n := 2)).1 ?_
     gi_wp2
     refine ⟨trivial, CallsIn.mono (callsIn_wide.2 (HX.out _)) ?_⟩
     rintro e5 w5 ⟨rfl, rfl⟩
     gi_wp2
     refine hR.mono ?_
     rintro e W' (⟨rfl, hJ2⟩ | ⟨rfl, hJx⟩)
     ·gi_wp2
      go_meet
      exact .inl ⟨rfl, hJ2⟩
     ·gi_wp2
      go_meet
      exact .inr ⟨rfl, hJx⟩
    case rest =>
     rcases hcut with ⟨rfl, hJ2⟩ | ⟨rfl, hJ2⟩
     ·have hJ2 := Lib.hid hJ2
      go_wp2
      go_roundw
      case rel => exact ⟨i + 1, by go_num, by omega, by rw [cloU_yes HMB.out.symm]; exact hJ2⟩
      case measure => simp [intOf]; omega
     ·go_wp2
      refine bodyPost_ret (results_none rfl _ _ _) rfl ?_
      exact ⟨⟨_, rfl⟩, .inr hJ2⟩
  ·obtain rfl : i = 6 := by omega
   have hJe := hJi.out
   clear hJi
   go_wp2
   go_end0
   exact ⟨⟨_, rfl⟩, .inl hJe⟩
theorem heap_set_neI {W : World} {b i k : Nat} {v : Value} (h : k ≠ b) : (W.setCell ⟨b, i, none⟩ v).heap[k]? = W.heap[k]? := by
 simp [World.setCell, Array.getElem?_modify, h.symm]
theorem SameCells.setI {w A : World} {b i : Nat} {v : Value} (h : SameCells w A) (hb : w.heap[b]? = none) : SameCells w (A.setCell ⟨b, i, none⟩ v) := fun k c t z hk => by
 rw [heap_set_neI (by rintro rfl; rw [hb] at hk; cases hk)]
 exact h k c t z hk
def isDir (m : Mac) (t : Int) (k : Nat) : Bool := (bAt m.br k).res == 0 && (bAt m.br k).tap == t
def dirL (m : Mac) (L : List Nat) (t : Int) : Nat := (L.filter (isDir m t)).length
theorem dirL_yes {m : Mac} {L : List Nat} {t : Int} {k : Nat} (h : isDir m t k = true) : dirL m (L ++ [k]) t = dirL m L t + 1 := by unfold dirL; rw [List.filter_append]; simp [h]
theorem dirL_no {m : Mac} {L : List Nat} {t : Int} {k : Nat} (h : isDir m t k = false) : dirL m (L ++ [k]) t = dirL m L t := by unfold dirL; rw [List.filter_append]; simp [h]
theorem dirL_le (m : Mac) (L : List Nat) (t : Int) : dirL m L t ≤ L.length := List.length_filter_le _ _
def dirS (m : Mac) (s : Nat) (t : Int) : Nat := dirL m (cloU s 6) t
def curE (m : Mac) (s : Nat) : Int := firstErr [unl (decide (s ≠ 0)) 21, unl (decide (dirS m s 0 = 0) || decide (dirS m s 1 = 0)) 13, unl (decide (dirS m s 0 ≤ 1) && decide (dirS m s 1 ≤ 1)) 23]
theorem bits_lt : ∀ n < 7, ∀ s < 2 ^ n, ∀ i < 6, s.testBit i = true → i < n := by decide +kernel
end Go.Proofs.YtdjinmieogpgcaaGreat
