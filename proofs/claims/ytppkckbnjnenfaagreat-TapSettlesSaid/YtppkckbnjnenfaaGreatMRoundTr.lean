import Derived.Deep.QuietTactic
import Derived.LoopNIn
import Derived.LoopIn
import Derived.Shelf.RegionOpen
import Derived.Deep.CutRange
import Derived.Test.YtppkckbnjnenfaaGreatMTOpen
/- What is walked plainly holds in a round of a range over a function, where no operation is a defer statement. -/
namespace Go.Proofs.YtppkckbnjnenfaaGreat
open Go.RowKit
set_option linter.unusedVariables false
section
variable {P : Program} {ops : Array Oper} {Q : Exit → Act → World → Prop} {l n : Nat}
theorem rowsIn_round {row : String} {args : Array Value} {w : World} {R : Value → World → Prop} (h : Rows P row args w R) : RowsIn (Fence.wide.inRound l) n P row args w R :=
 fun c cs _ => let ⟨v, w', r, s⟩ := h c cs; ⟨v, w', r, stepsIn_wide.2 s⟩
theorem wpIn_of_wp {o : Oper} {K : Act → World → Prop} {a : Act} {w : World} (hd : ∀ c, o.op ≠ .defer c) (h : o.wp P a w K Q) : o.wpIn (Fence.wide.inRound l) n P a w K Q := by
 refine ⟨fun _ _ => trivial, ?_⟩
 show o.uponIn (Fence.wide.inRound l) n P a K Q ((o.semAt (some l) a.eval).run P w)
 rw [Oper.semAt_some l a.eval o hd]
 unfold Oper.wp at h
 generalize (execOp a.eval o).run P w = r at *
 have hdp : ((Fence.wide.inRound l).depth.isSome = true → 1 ≤ n) := fun h => by cases h
 cases r with
 | ok x w' =>
  cases x with
  | value v => exact h
  | skip => exact h
  | «defer» d => exact h
  | enter f args => exact ⟨hdp, callsIn_wide.2 h⟩
  | row r args => exact ⟨hdp, rowsIn_round h⟩
  | _ => exact h.elim
 | halt x w' => cases x <;> first | exact h | exact h.elim
theorem opIn_of_op {i : Nat} {K : Act → World → Prop} {a : Act} {w : World} (hd : ∀ o, ops[i]? = some o → ∀ c, o.op ≠ .defer c) (hq : ¬ LetsOut Q) (h : wpOp P ops Q i K a w) : wpOpIn (Fence.wide.inRound l) n P ops Q i K a w := by
 unfold wpOp at h
 unfold wpOpIn
 cases ho : ops[i]? with
 | none => rw [ho] at h; exact h
 | some o =>
  rw [ho] at h
  simp only at h ⊢
  split at h
  ·rename_i hw
   rw [if_pos hw]
   rcases h with h | h
   ·exact wpIn_of_wp (hd o ho) h
   ·exact absurd h.2 hq
  ·rename_i hw
   rw [if_neg hw]
   exact ⟨fun _ _ => trivial, h⟩
theorem anyIn_of_any {md : Region.Mode} (hd : ∀ (i : Nat) (o : Oper), ops[i]? = some o → ∀ c, o.op ≠ .defer c) (hq : ¬ LetsOut Q) : ∀ (fuel : Nat) (listed : Array Bool) (a : Act) (w : World), wpAny P md ops Q fuel listed a w → wpAnyIn (Fence.wide.inRound l) n P md ops Q fuel listed a w
 | 0, _, _, _, h => h
 | fuel + 1, listed, a, w, h => ⟨h.1, fun i hi => opIn_of_op (hd i) hq (wpOp_mono (fun a' w' hh => anyIn_of_any hd hq fuel _ a' w' hh) (h.2 i hi))⟩
def noDeferB (ops : List Oper) : Bool := ops.all (fun (o : Oper) => match o.op with | .defer _ => false | _ => true)
theorem noDefer_spec {ops : List Oper} (h : noDeferB ops = true) : ∀ (i : Nat) (o : Oper), ops.toArray[i]? = some o → ∀ c, o.op ≠ .defer c := fun i o ho c hc => by
 have hm : o ∈ ops := by
  rw [List.getElem?_toArray] at ho
  exact List.mem_of_getElem? ho
 have := List.all_eq_true.1 h o hm
 rw [hc] at this
 cases this
theorem region_in_round {id : Nat} {a : Act} {w : World} {ops : List Oper} (hm : P.follows .mixedOrders = true) (hd : noDeferB ops = true) (hq : ¬ LetsOut Q)
    (h : wpAny P .any ops.toArray Q ops.toArray.size (Array.replicate ops.toArray.size false) a w.drew) : (Code.region id ops.toArray true).wpIn (Fence.wide.inRound l) n P Q a w :=
 wpIn_region_any hm (anyIn_of_any (noDefer_spec hd) hq _ _ _ _ h)
theorem any_of_quiet_tail {C : World → Prop} {a : Act} {w : World} {l : List Oper} (n : Nat) (hB : Region.lexTailB .any l.toArray n = true) (hC : C w)
    (h : wpQuiet P l.toArray C (fun a' => ∀ w', C w' → wpList P l.toArray Q (l.drop n) a' w') (l.take n) a) : wpAny P .any l.toArray Q l.toArray.size (Array.replicate l.toArray.size false) a w := by
 simp only [Region.lexTailB, Bool.and_eq_true, decide_eq_true_eq] at hB
 obtain ⟨⟨⟨⟨hsel, hn⟩, hs⟩, hc⟩, hlex⟩ := hB
 have hn' : n < l.length := by simpa using hn
 have htl : (l.take n).length = n := by simp; omega
 have hdl : (l.drop n).length = l.toArray.size - n := by simp
 have inv0 : HeadInv .any l.toArray n (Array.replicate l.toArray.size false) :=
  ⟨by simp, fun j oj _ hl => (by rw [getD_replicate_false] at hl; cases hl), fun t _ ht => getD_in (by simpa using ht) (getD_replicate_false _ _)⟩
 have H := headQ_lex (md := .any) (C := C) (g := l.toArray.size - n) hsel hs hc hn (l.take n) 0 _ a (fun j hj => by
  have hj' : j < n := by rw [htl] at hj; exact hj
  simp [hj']) (by simpa using htl) inv0 (by rw [htl]; exact hlex) h
 have := any_of_headQ (Q' := Q) (g := l.toArray.size - n) (fun listed a' w' hw' hL => by
  have := wpAny_of_seq (md := .any) (Q' := Q) (l.drop n) n listed a' w' (fun j => by simp [List.getElem?_drop]) (by rw [hdl]; exact hL.1) (hL.2 w' hw')
  rwa [hdl] at this) _ _ _ _ hC H
 rw [htl, show n + (l.toArray.size - n) = l.toArray.size by omega] at this
 exact this
theorem round_later_tail {l n : Nat} {id : Nat} {a : Act} {w : World} {ops : List Oper} (m : Nat) (hm : P.follows .mixedOrders = true) (hd : noDeferB ops = true) (hq : ¬ LetsOut Q) (hB : Region.lexTailB .any ops.toArray m = true)
    (h : wpQuiet P ops.toArray (fun w' => ∃ u : Later w, w' = u.world) (fun a' => ∀ w', Below w.heap.size w w' → wpList P ops.toArray Q (ops.drop m) a' w') (ops.take m) a) : (Code.region id ops.toArray true).wpIn (Fence.wide.inRound l) n P Q a w :=
 region_in_round hm hd hq (any_of_quiet_tail (C := fun w' => ∃ u : Later w, w' = u.world) m hB ⟨⟨_, (Below.refl _ _).drew⟩, rfl⟩ (wpQuiet_mono (fun a' hh w' hw' => by obtain ⟨u, rfl⟩ := hw'; exact hh _ u.below) _ _ h))
theorem not_out_two {l : Nat} {rec : Loop} {R : Ending → World → Prop} : ¬ LetsOut (twoPost P l rec R) := fun ⟨_, _, h⟩ => h
theorem not_out_then {K : Act → World → Prop} {Q : Exit → Act → World → Prop} (h : ¬ LetsOut Q) : ¬ LetsOut (Exit.then K Q) := fun ⟨a, w, h'⟩ => h ⟨a, w, h'⟩
theorem not_out_block {k : Nat} {Q : Exit → Act → World → Prop} (h : ¬ LetsOut Q) : ¬ LetsOut (Exit.inBlock k Q) := fun ⟨a, w, h'⟩ => h ⟨a, w, h'⟩
end
end Go.Proofs.YtppkckbnjnenfaaGreat
/- What a range over a function keeps, in general. -/
namespace Go.Proofs.YtppkckbnjnenfaaGreat
open Go.RowKit Go.Shelf
set_option linter.unusedVariables false
def nats (l : List Nat) : List Int := l.map (fun (x : Nat) => (x : Int))
theorem SameCells.refl (w : World) : SameCells w w := fun _ _ _ _ h => h
theorem SameCells.below {a b c : World} (h : SameCells a b) (h' : Below b.heap.size b c) : SameCells a c := fun k x t z hk => (h'.block k (Array.getElem?_eq_some_iff.1 (h k x t z hk)).1).trans (h k x t z hk)
theorem blk_of_cell {w : World} {b o : Nat} {v : Value} (h : w.cell? ⟨b, o, none⟩ = some v) : ∃ c t z, w.heap[b]? = some (.cells c t z) := by
 unfold World.cell? at h
 cases ho : w.heap[b]? with
 | none => simp [ho] at h
 | some ob => cases ob <;> simp_all
theorem SameCells.cell {w w' : World} (h : SameCells w w') {b o : Nat} {v : Value} (hc : w.cell? ⟨b, o, none⟩ = some v) : w'.cell? ⟨b, o, none⟩ = some v := by
 obtain ⟨c, t, z, hb⟩ := blk_of_cell hc
 have hb' := h _ _ _ _ hb
 unfold World.cell? at hc ⊢
 rw [hb'] ; rw [hb] at hc; exact hc
theorem SlR.same {w w' : World} {a : Option Addr} {n sz : Nat} {xs : List Value} (h : SlR w a n sz xs) (hs : SameCells w w') (hsz : w.heap.size ≤ w'.heap.size) : SlR w' a n sz xs := by
 refine ⟨h.1, h.2.1, fun hn => ?_⟩
 obtain ⟨b, o, ha, hlt, hc⟩ := h.2.2 hn
 exact ⟨b, o, ha, Nat.lt_of_lt_of_le hlt hsz, fun i u hu => hs.cell (hc i u hu)⟩
theorem ER.same {α : Type} {enc : α → List Value} {k : Nat} {w w' : World} {a : Option Addr} {n : Nat} {l : List α} (h : ER enc k w a n l) (hs : SameCells w w') (hsz : w.heap.size ≤ w'.heap.size) : ER enc k w' a n l := ⟨h.1, h.2.same hs hsz⟩
def RInv (lr D : Nat) (rec : Loop) (w wa W : World) : Prop := W.heap[lr]? = some (.loop rec) ∧ W.heap[D]? = some (.deferred (some [])) ∧ SameCells wa W ∧ wa.heap.size ≤ W.heap.size ∧ Below w.heap.size w W
theorem SameCells.put {w w' : World} {l : Nat} {r r' : Loop} (h : SameCells w w') (hl : w'.heap[l]? = some (.loop r)) : SameCells w (w'.putObj l (.loop r')) := fun k c t z hk => by
 have h1 := h k c t z hk
 rw [World.putObj_heap_other (by rintro rfl; rw [hl] at h1; cases h1)]
 exact h1
theorem RInv.ready {lr D : Nat} {rec RB : Loop} {w wa A1 W : World} (h1 : SameCells wa W) (h2 : wa.heap.size ≤ W.heap.size) (h3 : Below w.heap.size w W) (h4 : W.heap[lr]? = some (.loop RB)) (h5 : W.heap[D]? = some (.deferred (some []))) (hw : w.heap.size ≤ lr) : RInv lr D rec w wa (W.putObj lr (.loop rec)) :=
 ⟨World.putObj_heap_same (Array.getElem?_eq_some_iff.1 h4).1, (World.putObj_heap_other (by rintro rfl; rw [h5] at h4; cases h4)).trans h5, h1.put h4, by rw [World.putObj_size]; exact h2, h3.trans (belowK_b (w := w) (Nat.le_refl _) W lr _ _ hw h4 rfl rfl)⟩
def MK (w : World) (Ds : List Nat) (W : World) : Prop := Ds.Nodup ∧ ∀ D ∈ Ds, w.heap.size ≤ D ∧ W.heap[D]? = some (.deferred (some []))
theorem MK.below {w A B : World} {Ds : List Nat} (h : MK w Ds A) (hb : Below A.heap.size A B) : MK w Ds B := ⟨h.1, fun D hD => ⟨(h.2 D hD).1, (hb.block _ (Array.getElem?_eq_some_iff.1 (h.2 D hD).2).1).trans (h.2 D hD).2⟩⟩
theorem MK.put {w A : World} {Ds : List Nat} {l : Nat} {r r' : Loop} (h : MK w Ds A) (hl : A.heap[l]? = some (.loop r)) : MK w Ds (A.putObj l (.loop r')) := ⟨h.1, fun D hD => ⟨(h.2 D hD).1, (World.putObj_heap_other (by rintro rfl; rw [(h.2 D hD).2] at hl; cases hl)).trans (h.2 D hD).2⟩⟩
theorem MK.cons {w A : World} {Ds : List Nat} {D : Nat} (h : MK w Ds A) (hD : A.heap[D]? = some (.deferred (some []))) (hw : w.heap.size ≤ D) (hn : D ∉ Ds) : MK w (D :: Ds) A := ⟨List.nodup_cons.2 ⟨hn, h.1⟩, fun E hE => by
 rcases List.mem_cons.1 hE with rfl | hE
 ·exact ⟨hw, hD⟩
 ·exact h.2 E hE⟩
theorem own_put {w : World} {base n sz l : Nat} {e : TypeId} {v : Value} {xs : List Value} {r r' : Loop} (h : w.ownsRow base e sz v n xs) (hl : w.heap[l]? = some (.loop r)) : (w.putObj l (.loop r')).ownsRow base e sz v n xs := by
 refine ⟨h.1, ?_⟩
 rcases h.2 with hn | ⟨g, cap, cur, rfl, hbase, hgg, rest⟩
 ·exact .inl hn
 ·refine .inr ⟨g, cap, cur, rfl, hbase, ?_, rest⟩
  rw [World.putObj_heap_other (by rintro rfl; rw [hl] at hgg; cases hgg)]
  exact hgg
theorem own_same {w w' : World} {base n sz : Nat} {e : TypeId} {v : Value} {xs : List Value} (h : w.ownsRow base e sz v n xs) (hs : SameCells w w') : w'.ownsRow base e sz v n xs := by
 refine ⟨h.1, ?_⟩
 rcases h.2 with hn | ⟨g, cap, cur, rfl, hbase, hgg, rest⟩
 ·exact .inl hn
 ·exact .inr ⟨g, cap, cur, rfl, hbase, hs _ _ _ _ hgg, rest⟩
theorem wpListIn_int {F : Fence} {N : Nat} {ops : Array Oper} {rest : List Oper} {o : Oper} {a : Act} {Q : Exit → Act → World → Prop} (w : World) (hgd : o.guard = none) (s x : Operand)
    (ho : o.op = .call { callee := .builtin .append, args := #[s, x], argTypes := #[48, 48] }) (base n B : Nat) (v : Value) (xs : List Value) (u : Int) (hs : a.eval s = v)
    (hown : w.ownsRow base 3 1 v n xs) (hx : a.eval x = .slice (some ⟨B, 0, none⟩) 1 1) (hc : w.cell? ⟨B, 0, none⟩ = some (.int .i64 u)) (hn : n ≤ 1000000) (hbase : base ≤ w.heap.size)
    (h : ∀ v' w', w'.ownsRow base 3 1 v' (n + 1) (xs ++ [.int .i64 u]) → w.grownBy w' v.ownBlock → Below base w w' → wpListIn F N Tryz.prog ops Q rest (a.put o.dst v') w') : wpListIn F N Tryz.prog ops Q (o :: rest) a w := by
 obtain ⟨i, hi1, hi2, hi3, hi4⟩ := info_parts infoInt
 have hmul : (n + 1) * 8 ≤ 1000001 * 8 := Nat.mul_le_mul (by omega) (by omega)
 refine wpListIn_append_own w hgd s x 48 ho base 3 i _ 1 8 Tryz.underlying48 hi1 hi2 hi3 hi4 rfl (by omega) v n xs hs hown ⟨B, 0, none⟩ 1 1 [.int .i64 u] hx (by simp) (fun j u' hu => by
     match j with
     | 0 =>
      simp only [List.getElem?_cons_zero, Option.some.injEq] at hu
      subst hu
      rw [Addr.add_lit, Nat.zero_add]; exact hc
     | j + 1 => simp at hu) (by simp [Value.oneCell']) (by unfold maxLen; omega) (by omega) hbase
  (fun v' w' h2 h3 _ => h v' w' h2 h3 ((Below.refl base w).grown h3 hbase (fun k hk => (hown.lt k hk).1)))
/- The contacts that may change, collected; MovesIn. -/
set_option linter.unusedSimpArgs false
attribute [local go_sem] Oper.semAt_some
theorem cf_moves (args : Array Value) (w : World) : (callFunc 148 args).run Tryz.prog w = .ok (.enter 148 args) w := by kernel_rfl
end Go.Proofs.YtppkckbnjnenfaaGreat
/- MovesIn; the reference's MayChange and Moves. -/
namespace Go.Proofs.YtppkckbnjnenfaaGreat
open Go.RowKit
set_option linter.unusedVariables false
set_option linter.unusedSimpArgs false
theorem moves_any (m : Mac) (s : Nat) (ab ag : Option Addr) (nb cb ng cg : Nat) (w : World) (hg : GrR w ag ng m.gs) :
    Calls Tryz.prog 106 #[.agg #[.slice ab nb cb, .int .i64 m.st, .slice ag ng cg], .int .i64 (s : Int)] w fun e' w' => ∃ XM XS, e' = .returned (.func (.func 148) #[] #[.pointer (some ⟨XM, 0, none⟩), .pointer (some ⟨XS, 0, none⟩)]) ∧ Below w.heap.size w w' ∧ MovW m s XM XS ab ag nb cb ng cg w' := by
 have HG := Lib.hid hg
 clear hg
 go_enter Tryz.func106, Tryz.ntmps106
 go_wp2
 obtain ⟨w1, hW⟩ : ∃ w1, w1 = (w.alloc (Obj.cells #[.slice ab nb cb, .int .i64 m.st, .slice ag ng cg] 118)).alloc (Obj.cells #[.int .i64 (s : Int)] 146) := ⟨_, rfl⟩
 rw [← hW]
 have hb1 : Below w.heap.size w w1 := by rw [hW]; (first|exact bwg|go_size)
 have k1 : w1.heap[w.heap.size]? = some (.cells #[.slice ab nb cb, .int .i64 m.st, .slice ag ng cg] 118) := by rw [hW, Below.heap_alloc _ _ _ (by simp)]; exact heap_alloc_new _ _
 have k2 : w1.heap[w.heap.size + 1]? = some (.cells #[.int .i64 (s : Int)] 146) := by
  rw [hW]
  have := heap_alloc_new (w.alloc (Obj.cells #[.slice ab nb cb, .int .i64 m.st, .slice ag ng cg] 118)) (Obj.cells #[.int .i64 (s : Int)] 146)
  simpa using this
 refine bodyPost_ret (v := .func (.func 148) #[] #[.pointer (some ⟨w.heap.size, 0, none⟩), .pointer (some ⟨w.heap.size + 1, 0, none⟩)]) (by simp [results, Tryz.results106, go_sem]) rfl ⟨_, _, rfl, hb1, k1, k2, HG.out.below hb1⟩
/- All contacts of a set, in a range; the closed contacts without a resistance. -/
open Go.RowKit Go.Shelf
attribute [local go_sem] Oper.semAt_some
def cloU (s i : Nat) : List Nat := (List.range i).filter (fun k => s.testBit k)
theorem cloU_yes {s i : Nat} (h : s.testBit i = true) : cloU s (i + 1) = cloU s i ++ [i] := by unfold cloU; rw [List.range_succ, List.filter_append]; simp [h]
theorem cloU_no {s i : Nat} (h : s.testBit i = false) : cloU s (i + 1) = cloU s i := by unfold cloU; rw [List.range_succ, List.filter_append]; simp [h]
theorem cloU_len (s i : Nat) : (cloU s i).length ≤ i := by
 unfold cloU
 exact Nat.le_trans (List.length_filter_le _ _) (by simp)
theorem cf_all (args : Array Value) (w : World) : (callFunc 145 args).run Tryz.prog w = .ok (.enter 145 args) w := by kernel_rfl
set_option maxHeartbeats 2000000 in
set_option maxRecDepth 100000 in
theorem all_calls (s lr : Nat) (J : List Nat → World → Prop) (Jx : World → Prop) (W : World) (hs : s < 64)
    (hY : ∀ i A, i < 6 → s.testBit i = true → J (cloU s i) A → YieldAt Fence.wide 1 Tryz.prog lr #[.int .i64 (i : Int)] A (fun e B => (e = .returned (.bool true) ∧ J (cloU s i ++ [i]) B) ∨ (e = .returned (.bool false) ∧ Jx B)))
    (h0 : J [] W) :
    Calls Tryz.prog 145 #[.int .i64 (s : Int), .func (.yield lr) #[] #[]] W (fun e B => (∃ v, e = .returned v) ∧ (J (cloU s 6) B ∨ Jx B)) := by
 have HY := Lib.hid hY
 have HH := Lib.hid (fun (i : Nat) (hi : i < 6) w' => has_any s i w' hs (by omega))
 clear hY hs
 go_enter Tryz.func145, Tryz.ntmps145
 go_wp2_with fail
 go_loopw [5] (fun x wr => ∃ i : Nat, x = .int .i64 (i : Int) ∧ i ≤ 6 ∧ Hid (J (cloU s i) wr)) (fun x _ => 6 - (intOf x).toNat)
 case atStart => exact ⟨0, rfl, Nat.zero_le _, Lib.hid h0⟩
 case round =>
  obtain ⟨i, rfl, hi, hJi⟩ := hrel
  have i0 : (0 : Int) ≤ (i : Int) := by omega
  by_cases hlt : i < 6
  ·have i1 : (i : Int) < 6 := by omega
   have HX := Lib.hid (HH.out i hlt)
   obtain ⟨mb, hmb⟩ : ∃ b, b = s.testBit i := ⟨_, rfl⟩
   rw [← hmb] at HX
   have HMB := Lib.hid hmb
   clear hmb
   cases mb
   ·go_wp2_with fail
    refine (HX.out _).mono ?_
    rintro e5 w5 ⟨rfl, rfl⟩
    go_wp2_with fail
    go_roundw
    case rel => exact ⟨i + 1, by go_num, by omega, by rw [cloU_no HMB.out.symm]; exact hJi⟩
    case measure => simp [intOf]; omega
   ·obtain ⟨fn, tmps, assign, body, hy, hR⟩ := HY.out i wr hlt HMB.out.symm hJi.out
    go_upto_region 3 with (fail)
    go_cut [16] from 7 to 16 (fun v21 wx => (v21 = .bool false ∧ J (cloU s i ++ [i]) wx) ∨ (v21 = .bool true ∧ Jx wx))
    case first =>
     refine (wpIn_wide (n := 2)).1 ?_
     gi_wp2
     refine ⟨trivial, CallsIn.mono (callsIn_wide.2 (HX.out _)) ?_⟩
     rintro e5 w5 ⟨rfl, rfl⟩
     gi_wp2
     refine hR.mono ?_
     rintro e W' (⟨rfl, hJ2⟩ | ⟨rfl, hJx⟩)
     ·gi_wp2
      go_meet
      exact .inl ⟨rfl, hJ2⟩
     ·gi_wp2
      go_meet
      exact .inr ⟨rfl, hJx⟩
    case rest =>
     rcases hcut with ⟨rfl, hJ2⟩ | ⟨rfl, hJ2⟩
     ·have hJ2 := Lib.hid hJ2
      go_wp2
      go_roundw
      case rel => exact ⟨i + 1, by go_num, by omega, by rw [cloU_yes HMB.out.symm]; exact hJ2⟩
      case measure => simp [intOf]; omega
     ·go_wp2
      refine bodyPost_ret (results_none rfl _ _ _) rfl ?_
      exact ⟨⟨_, rfl⟩, .inr hJ2⟩
  ·obtain rfl : i = 6 := by omega
   have hJe := hJi.out
   clear hJi
   go_wp2
   go_end0
   exact ⟨⟨_, rfl⟩, .inl hJe⟩
theorem heap_set_neI {W : World} {b i k : Nat} {v : Value} (h : k ≠ b) : (W.setCell ⟨b, i, none⟩ v).heap[k]? = W.heap[k]? := by
 simp [World.setCell, Array.getElem?_modify, h.symm]
theorem SameCells.setI {w A : World} {b i : Nat} {v : Value} (h : SameCells w A) (hb : w.heap[b]? = none) : SameCells w (A.setCell ⟨b, i, none⟩ v) := fun k c t z hk => by
 rw [heap_set_neI (by rintro rfl; rw [hb] at hk; cases hk)]
 exact h k c t z hk
def isDir (m : Mac) (t : Int) (k : Nat) : Bool := (bAt m.br k).res == 0 && (bAt m.br k).tap == t
def dirL (m : Mac) (L : List Nat) (t : Int) : Nat := (L.filter (isDir m t)).length
theorem dirL_yes {m : Mac} {L : List Nat} {t : Int} {k : Nat} (h : isDir m t k = true) : dirL m (L ++ [k]) t = dirL m L t + 1 := by unfold dirL; rw [List.filter_append]; simp [h]
theorem dirL_no {m : Mac} {L : List Nat} {t : Int} {k : Nat} (h : isDir m t k = false) : dirL m (L ++ [k]) t = dirL m L t := by unfold dirL; rw [List.filter_append]; simp [h]
theorem dirL_le (m : Mac) (L : List Nat) (t : Int) : dirL m L t ≤ L.length := List.length_filter_le _ _
def dirS (m : Mac) (s : Nat) (t : Int) : Nat := dirL m (cloU s 6) t
def curE (m : Mac) (s : Nat) : Int := firstErr [unl (decide (s ≠ 0)) 21, unl (decide (dirS m s 0 = 0) || decide (dirS m s 1 = 0)) 13, unl (decide (dirS m s 0 ≤ 1) && decide (dirS m s 1 ≤ 1)) 23]
theorem bits_lt : ∀ n < 7, ∀ s < 2 ^ n, ∀ i < 6, s.testBit i = true → i < n := by decide +kernel
end Go.Proofs.YtppkckbnjnenfaaGreat
/- The closed contacts without a resistance, by taps; the error of currents: the program. -/
namespace Go.Proofs.YtppkckbnjnenfaaGreat
open Go.RowKit Go.Shelf
set_option linter.unusedVariables false
set_option linter.unusedSimpArgs false
attribute [local go_sem] Oper.semAt_some
set_option maxHeartbeats 4000000 in
set_option maxRecDepth 100000 in
theorem direct_any (m : Mac) (l : Lim) (s : Nat) (ab ag : Option Addr) (nb cb ng cg : Nat) (w : World) (hm : MacV m) (hb : BrR w ab nb m.br) (hs : s < 2 ^ nb) :
    Calls Tryz.prog 168 #[.agg #[.slice ab nb cb, .int .i64 m.st, .slice ag ng cg, .int .i64 l.volt, .int .i64 l.lo, .int .i64 l.hi, .int .i64 l.circ, .int .i64 l.brk, .int .i64 l.ret], .int .i64 (s : Int)] w fun e' w' => e' = .returned (.agg #[.int .i64 (dirS m s 0 : Nat), .int .i64 (dirS m s 1 : Nat)]) ∧ Below w.heap.size w w' := by
 have hn6 : nb ≤ 6 := by rw [← hb.len]; exact hm.n1
 have hs64 : s < 64 := Nat.lt_of_lt_of_le hs (Nat.le_trans (Nat.pow_le_pow_right (by omega) hn6) (by decide))
 have HBT := Lib.hid (fun (i : Nat) (hi : i < 6) (h : s.testBit i = true) => bits_lt nb (by omega) s hs i hi h)
 have HBV := Lib.hid (fun (i : Nat) (hi : i < nb) => hm.br i (by rw [hb.len]; exact hi))
 have HBR := Lib.hid hb
 obtain ⟨vo, lo, hi, ci, br, re⟩ := l
 obtain ⟨st, hst⟩ : ∃ x, x = m.st := ⟨_, rfl⟩
 rw [← hst]
 clear hb hs hm hst
 simp only
 refine (callsIn_wide (n := 3)).1 ?_
 refine callsIn_of_wp_marks Tryz.func168 rfl trivial ?_ rfl
 simp only [Tryz.ntmps168, List.size_toArray, List.length_cons, List.length_nil, Nat.reduceAdd, Nat.reduceSub, Array.replicate_succ, Array.replicate_zero, List.push_toArray, List.append_toArray, List.nil_append, List.cons_append]
 refine (wpIn_wide (n := 3)).2 ?_
 go_wp2_with fail
 obtain ⟨wq, hWq⟩ : ∃ wq, wq = (w.alloc (Obj.cells #[.slice ab nb cb, .int .i64 st, .slice ag ng cg, .int .i64 vo, .int .i64 lo, .int .i64 hi, .int .i64 ci, .int .i64 br, .int .i64 re] 120)).alloc (Obj.cells #[.int .i64 0, .int .i64 0] 137) := ⟨_, rfl⟩
 rw [← hWq]
 have hbq : Below w.heap.size w wq := by rw [hWq]; (first|exact bwg|go_size)
 have k2 : wq.heap[w.heap.size]? = some (.cells #[.slice ab nb cb, .int .i64 st, .slice ag ng cg, .int .i64 vo, .int .i64 lo, .int .i64 hi, .int .i64 ci, .int .i64 br, .int .i64 re] 120) := by rw [hWq, Below.heap_alloc _ _ _ (by simp)]; exact heap_alloc_new _ _
 have k4 : wq.heap[w.heap.size + 1]? = some (.cells #[.int .i64 0, .int .i64 0] 137) := by
  rw [hWq]
  have := heap_alloc_new (w.alloc (Obj.cells #[.slice ab nb cb, .int .i64 st, .slice ag ng cg, .int .i64 vo, .int .i64 lo, .int .i64 hi, .int .i64 ci, .int .i64 br, .int .i64 re] 120)) (Obj.cells #[.int .i64 0, .int .i64 0] 137)
  simpa using this
 have hzq : wq.heap.size = w.heap.size + 1 + 1 := by rw [hWq]; simp
 obtain ⟨X2, hX2⟩ : ∃ X, X = w.heap.size := ⟨_, rfl⟩
 obtain ⟨X4, hX4⟩ : ∃ X, X = w.heap.size + 1 := ⟨_, rfl⟩
 obtain ⟨X8, hX8⟩ : ∃ X, X = w.heap.size + 1 + 1 := ⟨_, rfl⟩
 rw [← hX2] at k2
 rw [← hX4] at k4
 obtain ⟨w6, hW6⟩ : ∃ w6, w6 = wq.alloc (Obj.cells #[.int .i64 0, .int .i64 0] 137) := ⟨_, rfl⟩
 rw [← hW6]
 have hb6 : Below wq.heap.size wq w6 := by rw [hW6]; (first|exact bwg|go_size)
 have k8 : w6.heap[X8]? = some (.cells #[.int .i64 0, .int .i64 0] 137) := by rw [hW6, hX8, ← hzq]; exact heap_alloc_new _ _
 have hz6 : w6.heap.size = X8 + 1 := by rw [hW6]; simp; omega
 have n8 : wq.heap[X8]? = none := Array.getElem?_eq_none (by omega)
 have hw8 : w.heap.size ≤ X8 := by omega
 have hw4 : w.heap.size ≤ X4 := by omega
 have hS6 := (SameCells.refl wq).below hb6
 have hBw6 := hbq.trans (hb6.mono hbq.size)
 have hBRq := Lib.hid (HBR.out.below hbq)
 simp only [← hX8]
 simp only [← hX4]
 simp only [← hX2]
 have hX48 : X4 < X8 := by omega
 have hX28 : X2 < X8 := by omega
 clear hWq hW6 hX2 hX4 hX8 hzq HBR
 refine (wpIn_wide (n := 3)).1 ?_
 refine range_two (gf := 145) (fst := #[.int .i64 (s : Int)]) (lst := #[]) rfl cf_all ?_
 intro rec hst hpe hpa htm has hbo
 have hL1 : ((w6.alloc (.deferred (some []))).alloc (.loop rec)).heap[w6.heap.size + 1]? = some (.loop rec) := by
  have := World.alloc_heap_new (w6.alloc (.deferred (some []))) (.loop rec); rwa [World.size_alloc] at this
 have hK1 : ((w6.alloc (.deferred (some []))).alloc (.loop rec)).heap[w6.heap.size]? = some (.deferred (some [])) := (Below.heap_alloc _ _ _ (by simp)).trans (World.alloc_heap_new w6 _)
 have hb9 : Below w6.heap.size w6 ((w6.alloc (.deferred (some []))).alloc (.loop rec)) := by (first|exact bwg|go_size)
 have hz9 : ((w6.alloc (.deferred (some []))).alloc (.loop rec)).heap.size = w6.heap.size + 2 := by simp
 generalize (w6.alloc (.deferred (some []))).alloc (.loop rec) = w9 at *
 obtain ⟨lr, hlr⟩ : ∃ lr, lr = w6.heap.size + 1 := ⟨_, rfl⟩
 obtain ⟨D, hD⟩ : ∃ D, D = w6.heap.size := ⟨_, rfl⟩
 rw [← hlr] at hL1
 rw [← hD] at hK1
 simp only [← hlr]
 simp only [← hD]
 have x8D : X8 < D := by omega
 have dl : D < lr := by omega
 have hwD : w.heap.size ≤ D := by omega
 have hl9 : w9.heap.size = lr + 1 := by omega
 have hI9 : RInv lr D rec w wq w9 := ⟨hL1, hK1, hS6.below hb9, Nat.le_trans hb6.size hb9.size, hBw6.trans (hb9.mono hBw6.size)⟩
 have h8 := (hb9.block _ (Array.getElem?_eq_some_iff.1 k8).1).trans k8
 clear hL1 hK1 hb9 hlr hD hS6 k8 hz9 hb6 hz6 hBw6 hbq
 show CallsIn Fence.wide _ _ _ #[.int .i64 (s : Int), .func (.yield lr) #[] #[]] _ _
 refine (callsIn_wide.2 (all_calls s lr
  (fun L B => RInv lr D rec w wq B ∧ B.heap[X8]? = some (.cells #[.int .i64 (dirL m L 0 : Nat), .int .i64 (dirL m L 1 : Nat)] 137))
  (fun _ => False) w9 hs64 ?_ ⟨hI9, h8⟩)).mono ?_
 ·rintro i A hi hmb ⟨h1, h3⟩
  have hin := HBT.out i hi hmb
  obtain ⟨⟨t0, t1⟩, r0, r1⟩ := HBV.out i hin
  have hl0 : dirL m (cloU s i) 0 ≤ 6 := Nat.le_trans (dirL_le _ _ _) (Nat.le_trans (cloU_len s i) (by omega))
  have hl1 : dirL m (cloU s i) 1 ≤ 6 := Nat.le_trans (dirL_le _ _ _) (Nat.le_trans (cloU_len s i) (by omega))
  have HY0 := Lib.hid (fun (h : isDir m 0 i = true) => dirL_yes (L := cloU s i) h)
  have HY1 := Lib.hid (fun (h : isDir m 1 i = true) => dirL_yes (L := cloU s i) h)
  have HN0 := Lib.hid (fun (h : isDir m 0 i = false) => dirL_no (L := cloU s i) h)
  have HN1 := Lib.hid (fun (h : isDir m 1 i = false) => dirL_no (L := cloU s i) h)
  have HD0 := Lib.hid (show isDir m 0 i = ((bAt m.br i).res == 0 && (bAt m.br i).tap == 0) from rfl)
  have HD1 := Lib.hid (show isDir m 1 i = ((bAt m.br i).res == 0 && (bAt m.br i).tap == 1) from rfl)
  refine yield_two h1.1 hst hpe (by rw [hpa]; rfl) ?_
  obtain ⟨RB, hRB⟩ : ∃ RB : Loop, RB = { rec with state := .busy } := ⟨_, rfl⟩
  rw [← hRB]
  have HRB := Lib.hid hRB
  clear hRB
  rw [has, hbo, hpa, htm]
  clear has hbo hpa htm hst hpe
  gi_wp2
  have hjl := h1.1
  have hI := h1
  refine ⟨hjl, ?_⟩
  have hB1 : SameCells wq (A.putObj lr (.loop RB)) := hI.2.2.1.put hjl
  have hB2 : wq.heap.size ≤ (A.putObj lr (.loop RB)).heap.size := by rw [World.putObj_size]; exact hI.2.2.2.1
  have hB3 : Below w.heap.size w (A.putObj lr (.loop RB)) := hI.2.2.2.2.trans (belowK_b (w := w) (Nat.le_refl _) A lr _ _ (by omega) hjl rfl rfl)
  have hB4 : (A.putObj lr (.loop RB)).heap[lr]? = some (.loop RB) := World.putObj_heap_same (Array.getElem?_eq_some_iff.1 hjl).1
  have hB5 : (A.putObj lr (.loop RB)).heap[D]? = some (.deferred (some [])) := (World.putObj_heap_other (by omega)).trans hI.2.1
  have e8 : (A.putObj lr (.loop RB)).heap[X8]? = _ := (World.putObj_heap_other (show X8 ≠ lr by omega)).trans h3
  generalize A.putObj lr (.loop RB) = A1 at *
  clear hI hjl h1 h3
  have hnrm : ∀ (ac : Act) (W8 : World), W8.heap[lr]? = some (.loop RB) → W8.heap[D]? = some (.deferred (some [])) → SameCells wq W8 → wq.heap.size ≤ W8.heap.size → Below w.heap.size w W8 →
      W8.heap[X8]? = some (.cells #[.int .i64 (dirL m (cloU s i ++ [i]) 0 : Nat), .int .i64 (dirL m (cloU s i ++ [i]) 1 : Nat)] 137) →
      twoPost Tryz.prog lr rec (fun e B => (e = .returned (.bool true) ∧ (RInv lr D rec w wq B ∧ B.heap[X8]? = some (.cells #[.int .i64 (dirL m (cloU s i ++ [i]) 0 : Nat), .int .i64 (dirL m (cloU s i ++ [i]) 1 : Nat)] 137))) ∨ (e = .returned (.bool false) ∧ False)) .normal ac W8 := by
   rintro ac W8 g4 g5 g1 g2 g3 g8
   exact ⟨by rw [← HRB.out]; exact g4, .inl ⟨rfl, RInv.ready (A1 := A1) g1 g2 g3 g4 g5 (by omega), (World.putObj_heap_other (show X8 ≠ lr by omega)).trans g8⟩⟩
  have HNRM := Lib.hid hnrm
  have HF := Lib.hid (And.intro hB1 (And.intro hB2 (And.intro hB3 (And.intro hB4 (And.intro hB5 e8)))))
  have kx := hB1 _ _ _ _ k2
  have u0 := cell_of_row _ _ 0 _ _ _ kx
  simp only [List.getElem?_toArray, List.getElem?_cons_zero, List.getElem?_cons_succ] at u0
  have lx2 : X2 < A1.heap.size := (Array.getElem?_eq_some_iff.1 kx).1
  obtain ⟨bb, ob, rfl, hbb, hcc⟩ := BrR.addr (ER.same hBRq.out hB1 hB2 : BrR A1 ab nb m.br) (by omega)
  obtain ⟨c0, c1⟩ := hcc i hin
  have y0 := cell_of_row _ _ 0 _ _ _ e8
  have y1 := cell_of_row _ _ 1 _ _ _ e8
  have f0 := frozen_of_row _ _ 0 _ _ e8
  have f1 := frozen_of_row _ _ 1 _ _ e8
  simp only [List.getElem?_toArray, List.getElem?_cons_zero, List.getElem?_cons_succ] at y0 y1
  have l8 : X8 < A1.heap.size := (Array.getElem?_eq_some_iff.1 e8).1
  have llr : lr < A1.heap.size := (Array.getElem?_eq_some_iff.1 hB4).1
  have i0 : (0 : Int) ≤ (i : Int) := by omega
  have i1 : (i : Int) < (nb : Int) := by omega
  generalize (bAt m.br i).res = rr at *
  generalize (bAt m.br i).tap = tt at *
  generalize dirL m (cloU s i) 0 = N0 at *
  generalize dirL m (cloU s i) 1 = N1 at *
  clear hnrm hB1 hB2 hB3 hB4 hB5 e8 kx hcc
  have hbA : Below A1.heap.size A1 (A1.alloc (Obj.cells #[.int .i64 tt, .int .i64 rr] 172)) := by (first|exact bwg|go_size)
  have HBA := Lib.hid hbA
  clear hbA
  by_cases hr : rr = 0
  ·subst hr
   obtain rfl | rfl : tt = 0 ∨ tt = 1 := by omega
   ·have e0 := HY0.out (by rw [HD0.out]; rfl)
    have e1 := HN1.out (by rw [HD1.out]; rfl)
    have HE := Lib.hid (And.intro e0 e1)
    have w1 : IntKind.i64.wrap ((N0 : Int) + 1) = (N0 : Int) + 1 := by rw [IntKind.wrap_i64]; omega
    clear e0 e1 HY0 HY1 HN0 HN1 HD0 HD1
    gi_wp2
    obtain ⟨hB1, hB2, hB3, hB4, hB5, e8⟩ := HF.out
    obtain ⟨A2, hA2⟩ : ∃ A2, A2 = A1.setCell ⟨X8, 0, none⟩ (.int .i64 ((N0 : Int) + 1)) := ⟨_, rfl⟩
    rw [← hA2]
    have hz2 : A2.heap.size = A1.heap.size := by rw [hA2]; simp
    have hb2 : Below A2.heap.size A2 (A2.alloc (Obj.cells #[.int .i64 0, .int .i64 0] 172)) := by (first|exact bwg|go_size)
    have g4 : A2.heap[lr]? = some (.loop RB) := by rw [hA2]; exact (heap_set_neI (show lr ≠ X8 by omega)).trans hB4
    have g5 : A2.heap[D]? = some (.deferred (some [])) := by rw [hA2]; exact (heap_set_neI (show D ≠ X8 by omega)).trans hB5
    have g8 := blk_set e8 0 (.int .i64 ((N0 : Int) + 1))
    rw [← hA2] at g8
    have gs : SameCells wq A2 := by rw [hA2]; exact hB1.setI n8
    have gb : Below w.heap.size w A2 := by rw [hA2]; exact hB3.setCell hw8 _
    refine HNRM.out _ _ ((hb2.block _ (by omega)).trans g4) ((hb2.block _ (by omega)).trans g5) (gs.below hb2) (by have := hb2.size; omega) (gb.trans (hb2.mono gb.size)) ?_
    rw [HE.out.1, HE.out.2]
    exact (hb2.block _ (by omega)).trans g8
   ·have e0 := HN0.out (by rw [HD0.out]; rfl)
    have e1 := HY1.out (by rw [HD1.out]; rfl)
    have HE := Lib.hid (And.intro e0 e1)
    have w1 : IntKind.i64.wrap ((N1 : Int) + 1) = (N1 : Int) + 1 := by rw [IntKind.wrap_i64]; omega
    clear e0 e1 HY0 HY1 HN0 HN1 HD0 HD1
    gi_wp2
    obtain ⟨hB1, hB2, hB3, hB4, hB5, e8⟩ := HF.out
    obtain ⟨A2, hA2⟩ : ∃ A2, A2 = A1.setCell ⟨X8, 1, none⟩ (.int .i64 ((N1 : Int) + 1)) := ⟨_, rfl⟩
    rw [← hA2]
    have hz2 : A2.heap.size = A1.heap.size := by rw [hA2]; simp
    have hb2 : Below A2.heap.size A2 (A2.alloc (Obj.cells #[.int .i64 1, .int .i64 0] 172)) := by (first|exact bwg|go_size)
    have g4 : A2.heap[lr]? = some (.loop RB) := by rw [hA2]; exact (heap_set_neI (show lr ≠ X8 by omega)).trans hB4
    have g5 : A2.heap[D]? = some (.deferred (some [])) := by rw [hA2]; exact (heap_set_neI (show D ≠ X8 by omega)).trans hB5
    have g8 := blk_set e8 1 (.int .i64 ((N1 : Int) + 1))
    rw [← hA2] at g8
    have gs : SameCells wq A2 := by rw [hA2]; exact hB1.setI n8
    have gb : Below w.heap.size w A2 := by rw [hA2]; exact hB3.setCell hw8 _
    refine HNRM.out _ _ ((hb2.block _ (by omega)).trans g4) ((hb2.block _ (by omega)).trans g5) (gs.below hb2) (by have := hb2.size; omega) (gb.trans (hb2.mono gb.size)) ?_
    rw [HE.out.1, HE.out.2]
    exact (hb2.block _ (by omega)).trans g8
  ·have hr0 : (rr == 0) = false := by simpa using hr
   have e0 := HN0.out (by rw [HD0.out, hr0]; rfl)
   have e1 := HN1.out (by rw [HD1.out, hr0]; rfl)
   have HE := Lib.hid (And.intro e0 e1)
   clear e0 e1 HY0 HY1 HN0 HN1 HD0 HD1 hr
   gi_wp2
   obtain ⟨hB1, hB2, hB3, hB4, hB5, e8⟩ := HF.out
   have hbA := HBA.out
   refine HNRM.out _ _ ((hbA.block _ llr).trans hB4) ((hbA.block _ (by omega)).trans hB5) (hB1.below hbA) (Nat.le_trans hB2 hbA.size) (hB3.trans (hbA.mono hB3.size)) ?_
   rw [HE.out.1, HE.out.2]
   exact (hbA.block _ l8).trans e8
 ·rintro e W9 ⟨⟨v, rfl⟩, h⟩
  obtain ⟨h1, h3⟩ := h.resolve_right id
  refine ⟨⟨_, rfl⟩, .inl ⟨h1.1, ?_⟩⟩
  have hBw : Below w.heap.size w (W9.putObj lr (.loop { rec with state := .exhausted })) := h1.2.2.2.2.trans (belowK_b (w := w) (Nat.le_refl _) W9 lr _ _ (by omega) h1.1 rfl rfl)
  have g5 : (W9.putObj lr (.loop { rec with state := .exhausted })).heap[D]? = some (.deferred (some [])) := (World.putObj_heap_other (by omega)).trans h1.2.1
  have g8 : (W9.putObj lr (.loop { rec with state := .exhausted })).heap[X8]? = _ := (World.putObj_heap_other (show X8 ≠ lr by omega)).trans h3
  have hS := h1.2.2.1.put (r' := { rec with state := .exhausted }) h1.1
  generalize W9.putObj lr (.loop { rec with state := .exhausted }) = W2 at *
  have c0 := cell_of_row _ _ 0 _ _ _ g8
  have c1 := cell_of_row _ _ 1 _ _ _ g8
  simp only [List.getElem?_toArray, List.getElem?_cons_zero, List.getElem?_cons_succ] at c0 c1
  have kz := hS _ _ _ _ k4
  have z0 := cell_of_row _ _ 0 _ _ _ kz
  have z1 := cell_of_row _ _ 1 _ _ _ kz
  have v0 := frozen_of_row _ _ 0 _ _ kz
  have v1 := frozen_of_row _ _ 1 _ _ kz
  simp only [List.getElem?_toArray, List.getElem?_cons_zero, List.getElem?_cons_succ] at z0 z1
  have l8 : X8 < W2.heap.size := (Array.getElem?_eq_some_iff.1 g8).1
  have l4 : X4 < W2.heap.size := (Array.getElem?_eq_some_iff.1 kz).1
  have HBw := Lib.hid hBw
  have H5 := Lib.hid g5
  have HKZ := Lib.hid kz
  clear h h1 h3 hst hpe hpa htm has hbo hI9 h8 g8 hBw g5 hS kz
  go_wp2_with fail
  simp only [show ∀ t, dirL m (cloU s 6) t = dirS m s t from fun _ => rfl]
  obtain ⟨W3, hW3⟩ : ∃ W3, W3 = (W2.setCell ⟨X4, 0, none⟩ (.int .i64 (dirS m s 0 : Nat))).setCell ⟨X4, 1, none⟩ (.int .i64 (dirS m s 1 : Nat)) := ⟨_, rfl⟩
  rw [← hW3]
  have kw : W3.heap[X4]? = some (.cells #[.int .i64 (dirS m s 0 : Nat), .int .i64 (dirS m s 1 : Nat)] 137) := by rw [hW3]; exact blk_set (blk_set HKZ.out 0 _) 1 _
  have hb3 : Below w.heap.size w W3 := by rw [hW3]; exact Below.setCell (Below.setCell HBw.out hw4 _) hw4 _
  have h53 : W3.heap[D]? = some (.deferred (some [])) := by rw [hW3]; exact (heap_set_neI (by omega)).trans ((heap_set_neI (by omega)).trans H5.out)
  refine leaves_marks (B := w.heap.size) (w0 := w) [D] W3 (by simp) (fun E hE => by simp at hE; subst hE; exact ⟨hwD, h53⟩) hb3 (fun w' hs hb' => ⟨.agg #[.int .i64 (dirS m s 0 : Nat), .int .i64 (dirS m s 1 : Nat)], ?_, rfl, hb'⟩)
  have kv := hs _ _ _ _ kw
  obtain ⟨r0, r1, _⟩ := blkc2 kv
  simp [results, Tryz.results168, go_sem, r0, r1]
end Go.Proofs.YtppkckbnjnenfaaGreat
