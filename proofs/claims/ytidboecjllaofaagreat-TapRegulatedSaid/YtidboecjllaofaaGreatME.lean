import Derived.RangeFuncNested
import Derived.RangeFuncBound
import Derived.RangeFuncCalls
import Derived.RangeFuncLeaves
import Derived.OwnWalkIn
import Derived.TacticsInMore
import Derived.Deep.QuietTactic
import Derived.LoopNIn
import Derived.LoopIn
import Derived.Shelf.RegionOpen
import Derived.Deep.CutRange
import Derived.Test.YtidboecjllaofaaGreatMA
import Derived.Test.YtidboecjllaofaaGreatMB
import Derived.Test.YtidboecjllaofaaGreatMC
import Derived.Test.YtidboecjllaofaaGreatMD
/- A range over a method value or a closure, whose rounds may leave: a round, the statement, and a return behind many such statements. -/
namespace Go.Proofs.YtidboecjllaofaaGreat
open Go.RowKit
set_option linter.unusedVariables false

/-- What a round leaves: it goes on, or it leaves by the jump j. -/
def twoPost (P : Program) (l : Nat) (rec : Loop) (R : Ending → World → Prop) : Exit → Act → World → Prop
  | .normal, _, W => W.heap[l]? = some (.loop { rec with state := .busy }) ∧ R (.returned (.bool true)) (W.putObj l (.loop rec))
  | .ret, _, W => W.heap[l]? = some (.loop { rec with state := .busy }) ∧ R (.returned (.bool false)) (W.putObj l (.loop { rec with state := .done, pending := some .ret }))
  | _, _, _ => False
theorem yield_two {P : Program} {m l : Nat} {xs : Array Value} {W : World} {R : Ending → World → Prop} {rec : Loop} (hl : W.heap[l]? = some (.loop rec)) (hst : rec.state = .ready) (hp : rec.pending = none) (hsz : xs.size = rec.params.size)
    (h : rec.assign.wpIn (Fence.wide.inRound l) m P (Exit.then (fun a1 W1 => W1.heap[l]? = some (.loop rec) ∧ rec.body.wpIn (Fence.wide.inRound l) m P (twoPost P l rec R) a1 (W1.putObj l (.loop { rec with state := .busy }))) (fun _ _ _ => False))
      { tmps := (rec.params.zip xs).foldl (fun t (p, v) => t.setIfInBounds p v) rec.tmps, defers := [] } W) :
    YieldAt Fence.wide m P l xs W R := by
  refine ⟨_, _, _, _, run_yield hl hsz, roundIn_of_wpIn trivial (wpIn_mono h ?_)⟩
  intro e a1 W1 hq
  cases e with
  | normal =>
    obtain ⟨h1, h2⟩ := hq
    refine ⟨_, run_beginRound h1 hst, wpIn_mono h2 ?_⟩
    intro e2 a2 W2 hq2
    cases e2 with
    | normal =>
      obtain ⟨h3, h4⟩ := hq2
      refine ⟨_, _, run_endRound none h3, ?_⟩
      have : ({ { rec with state := .busy } with state := if (none : Option Code).isNone then .ready else .done, pending := none } : Loop) = rec := by
        cases rec; simp_all
      simp only [this]
      exact h4
    | ret =>
      obtain ⟨h3, h4⟩ := hq2
      refine ⟨_, _, run_endRound (some .ret) h3, ?_⟩
      exact h4
    | _ => exact hq2.elim
  | _ => exact hq.elim
theorem range_two {P : Program} {n : Nat} {g : Operand} {ps : Array Tmp} {assign body : Code} {Q : Exit → Act → World → Prop} {a : Act} {w : World} {gf : Nat} {fst lst : Array Value}
    (hg : a.eval g = .func (.func gf) fst lst) (eg : ∀ args w, (callFunc gf args).run P w = .ok (.enter gf args) w)
    (h : ∀ rec : Loop, rec.state = .ready → rec.pending = none → rec.params = ps → rec.tmps = a.tmps → rec.assign = assign → rec.body = body →
      CallsIn Fence.wide (n - 1) P gf (fst ++ #[.func (.yield (w.heap.size + 1)) #[] #[]] ++ lst) ((w.alloc (.deferred (some []))).alloc (.loop rec)) fun e W => (∃ v, e = .returned v) ∧
        ((W.heap[w.heap.size + 1]? = some (.loop rec) ∧
          Q .normal { a with defers := { target := .collected w.heap.size, args := #[] } :: a.defers } (W.putObj (w.heap.size + 1) (.loop { rec with state := .exhausted }))) ∨
        (W.heap[w.heap.size + 1]? = some (.loop { rec with state := .done, pending := some .ret }) ∧
          Q .ret { a with defers := { target := .collected w.heap.size, args := #[] } :: a.defers } (W.putObj (w.heap.size + 1) (.loop { rec with state := .exhausted, pending := some .ret }))))) :
    (Code.rangeFunc g ps assign body).wpIn Fence.wide n P Q a w := by
  refine wpIn_rangeFunc ?_
  intro fn hfn
  obtain ⟨W1, hW1⟩ : ∃ W1, W1 = (w.alloc (.deferred (some []))).alloc (.loop { state := .ready, pending := none, fn := fn, tmps := a.tmps, params := ps, assign := assign, body := body, defers := w.heap.size }) := ⟨_, rfl⟩
  refine ⟨w.heap.size + 1, [{ target := .collected w.heap.size, args := #[] }], W1, { target := .fn (.func gf) lst, args := fst ++ #[.func (.yield (w.heap.size + 1)) #[] #[]] }, W1, gf, fst ++ #[.func (.yield (w.heap.size + 1)) #[] #[]] ++ lst, W1, by rw [hW1]; exact run_enterLoop_outer _ _ _ _ _, ?_, fun _ _ => trivial, ?_, fun h => by simp [Fence.wide] at h, ?_⟩
  · simp only [resolve, hg]
    simp [go_sem]
  · simp [invoke, go_sem, eg]
  · rw [hW1]
    refine (h _ rfl rfl rfl rfl rfl rfl).mono ?_
    rintro e W ⟨⟨v, rfl⟩, (⟨h1, h2⟩ | ⟨h1, h2⟩)⟩
    · exact ⟨none, _, by have := run_endLoop (P := P) h1 (by simp); exact this, h2⟩
    · refine ⟨some .ret, _, by have := run_endLoop (P := P) h1 (by simp); exact this, ?_⟩
      exact wpIn_ret h2
/-- The cells are as they were; behind a return: the marks' blocks are shut. -/
def SameCells (A B : World) : Prop := ∀ (k : Nat) c t z, A.heap[k]? = some (.cells c t z) → B.heap[k]? = some (.cells c t z)
def mark (D : Nat) : Deferred := { target := .collected D, args := #[] }
theorem leaves_marks {P : Program} {F : Fence} {n : Nat} {fn : Func} {tmps : Array Value} {R : Ending → World → Prop} {B : Nat} {w0 : World} : ∀ (l : List Nat) (w : World), l.Nodup → (∀ D ∈ l, B ≤ D ∧ w.heap[D]? = some (.deferred (some []))) → Below B w0 w →
    (∀ w', SameCells w w' → Below B w0 w' → ∃ v, (results fn tmps).run P w' = .ok v w' ∧ R (.returned v) w') → LeavesInM F n P fn tmps R (l.map mark) .returning w
  | [], w, _, _, hb, h => h w (fun _ _ _ _ h => h) hb
  | D :: r, w, hn, hd, hb, h => by
    rw [List.nodup_cons] at hn
    have hD := hd D (by simp)
    refine ⟨by simp, .inl ⟨D, _, rfl, run_takeDeferred hD.2, ?_⟩⟩
    have hlt := (Array.getElem?_eq_some_iff.1 hD.2).1
    refine leaves_marks r _ hn.2 (fun E hE => ⟨(hd E (by simp [hE])).1, ?_⟩) (hb.trans ?_) (fun w' hs hb' => h w' (fun k c t z hk => hs k c t z ?_) hb')
    · rw [World.putObj_heap_other (by rintro rfl; exact hn.1 hE)]
      exact (hd E (by simp [hE])).2
    · exact (Below.refl B w).grown (grownBy_putObj' w D _) (by omega) (fun k e => by cases e; exact hD.1)
    · rw [World.putObj_heap_other (fun e => ?_)]
      · exact hk
      · subst e; rw [hD.2] at hk; cases hk
end Go.Proofs.YtidboecjllaofaaGreat

/- What is walked plainly holds in a round of a range over a function, where no operation is a defer statement. -/
namespace Go.Proofs.YtidboecjllaofaaGreat
open Go.RowKit
set_option linter.unusedVariables false

section
variable {P : Program} {ops : Array Oper} {Q : Exit → Act → World → Prop} {l n : Nat}
theorem rowsIn_round {row : String} {args : Array Value} {w : World} {R : Value → World → Prop} (h : Rows P row args w R) : RowsIn (Fence.wide.inRound l) n P row args w R :=
  fun c cs _ => let ⟨v, w', r, s⟩ := h c cs; ⟨v, w', r, stepsIn_wide.2 s⟩
theorem wpIn_of_wp {o : Oper} {K : Act → World → Prop} {a : Act} {w : World} (hd : ∀ c, o.op ≠ .defer c) (h : o.wp P a w K Q) : o.wpIn (Fence.wide.inRound l) n P a w K Q := by
  refine ⟨fun _ _ => trivial, ?_⟩
  show o.uponIn (Fence.wide.inRound l) n P a K Q ((o.semAt (some l) a.eval).run P w)
  rw [Oper.semAt_some l a.eval o hd]
  unfold Oper.wp at h
  generalize (execOp a.eval o).run P w = r at *
  have hdp : ((Fence.wide.inRound l).depth.isSome = true → 1 ≤ n) := fun h => by cases h
  cases r with
  | ok x w' =>
    cases x with
    | value v => exact h
    | skip => exact h
    | «defer» d => exact h
    | enter f args => exact ⟨hdp, callsIn_wide.2 h⟩
    | row r args => exact ⟨hdp, rowsIn_round h⟩
    | _ => exact h.elim
  | halt x w' => cases x <;> first | exact h | exact h.elim
theorem opIn_of_op {i : Nat} {K : Act → World → Prop} {a : Act} {w : World} (hd : ∀ o, ops[i]? = some o → ∀ c, o.op ≠ .defer c) (hq : ¬ LetsOut Q) (h : wpOp P ops Q i K a w) : wpOpIn (Fence.wide.inRound l) n P ops Q i K a w := by
  unfold wpOp at h
  unfold wpOpIn
  cases ho : ops[i]? with
  | none => rw [ho] at h; exact h
  | some o =>
    rw [ho] at h
    simp only at h ⊢
    split at h
    · rename_i hw
      rw [if_pos hw]
      rcases h with h | h
      · exact wpIn_of_wp (hd o ho) h
      · exact absurd h.2 hq
    · rename_i hw
      rw [if_neg hw]
      exact ⟨fun _ _ => trivial, h⟩
theorem anyIn_of_any {md : Region.Mode} (hd : ∀ (i : Nat) (o : Oper), ops[i]? = some o → ∀ c, o.op ≠ .defer c) (hq : ¬ LetsOut Q) : ∀ (fuel : Nat) (listed : Array Bool) (a : Act) (w : World), wpAny P md ops Q fuel listed a w → wpAnyIn (Fence.wide.inRound l) n P md ops Q fuel listed a w
  | 0, _, _, _, h => h
  | fuel + 1, listed, a, w, h => ⟨h.1, fun i hi => opIn_of_op (hd i) hq (wpOp_mono (fun a' w' hh => anyIn_of_any hd hq fuel _ a' w' hh) (h.2 i hi))⟩
/-- No operation is a defer statement. -/
def noDeferB (ops : List Oper) : Bool := ops.all (fun (o : Oper) => match o.op with | .defer _ => false | _ => true)
theorem noDefer_spec {ops : List Oper} (h : noDeferB ops = true) : ∀ (i : Nat) (o : Oper), ops.toArray[i]? = some o → ∀ c, o.op ≠ .defer c := fun i o ho c hc => by
  have hm : o ∈ ops := by
    rw [List.getElem?_toArray] at ho
    exact List.mem_of_getElem? ho
  have := List.all_eq_true.1 h o hm
  rw [hc] at this
  cases this
/-- A region that draws its order, in a round: it is walked as anywhere. -/
theorem region_in_round {id : Nat} {a : Act} {w : World} {ops : List Oper} (hm : P.follows .mixedOrders = true) (hd : noDeferB ops = true) (hq : ¬ LetsOut Q)
    (h : wpAny P .any ops.toArray Q ops.toArray.size (Array.replicate ops.toArray.size false) a w.drew) : (Code.region id ops.toArray true).wpIn (Fence.wide.inRound l) n P Q a w :=
  wpIn_region_any hm (anyIn_of_any (noDefer_spec hd) hq _ _ _ _ h)
/-- All of it quiet in a class of worlds. -/
theorem any_of_quiet {C : World → Prop} {a : Act} {w : World} {ops : List Oper} (hB : Region.lexB .any ops.toArray = true) (hC : C w)
    (h : wpQuiet P ops.toArray C (fun a' => ∀ w', C w' → Q .normal a' w') ops a) : wpAny P .any ops.toArray Q ops.toArray.size (Array.replicate ops.toArray.size false) a w := by
  simp only [Region.lexB, Bool.and_eq_true] at hB
  refine wpAny_of_quiet (Q := fun a' => ∀ w', C w' → Q .normal a' w') (fun _ w' hw' h => h w' hw') _ _ _ _ hC ?_
  have := wpAnyQ_lex (P := P) (C := C) (md := .any) hB.1 ops.toArray.toList 0 (Array.replicate ops.toArray.size false) a (by simp) (by simpa using hB.2) (by simpa using h)
  simpa using this
/-- The head quiet, the tail in its one order. -/
theorem any_of_quiet_tail {C : World → Prop} {a : Act} {w : World} {l : List Oper} (n : Nat) (hB : Region.lexTailB .any l.toArray n = true) (hC : C w)
    (h : wpQuiet P l.toArray C (fun a' => ∀ w', C w' → wpList P l.toArray Q (l.drop n) a' w') (l.take n) a) : wpAny P .any l.toArray Q l.toArray.size (Array.replicate l.toArray.size false) a w := by
  simp only [Region.lexTailB, Bool.and_eq_true, decide_eq_true_eq] at hB
  obtain ⟨⟨⟨⟨hsel, hn⟩, hs⟩, hc⟩, hlex⟩ := hB
  have hn' : n < l.length := by simpa using hn
  have htl : (l.take n).length = n := by simp; omega
  have hdl : (l.drop n).length = l.toArray.size - n := by simp
  have inv0 : HeadInv .any l.toArray n (Array.replicate l.toArray.size false) :=
    ⟨by simp, fun j oj _ hl => (by rw [getD_replicate_false] at hl; cases hl), fun t _ ht => getD_in (by simpa using ht) (getD_replicate_false _ _)⟩
  have H := headQ_lex (md := .any) (C := C) (g := l.toArray.size - n) hsel hs hc hn (l.take n) 0 _ a (fun j hj => by
    have hj' : j < n := by rw [htl] at hj; exact hj
    simp [hj']) (by simpa using htl) inv0 (by rw [htl]; exact hlex) h
  have := any_of_headQ (Q' := Q) (g := l.toArray.size - n) (fun listed a' w' hw' hL => by
    have := wpAny_of_seq (md := .any) (Q' := Q) (l.drop n) n listed a' w' (fun j => by simp [List.getElem?_drop]) (by rw [hdl]; exact hL.1) (hL.2 w' hw')
    rwa [hdl] at this) _ _ _ _ hC H
  rw [htl, show n + (l.toArray.size - n) = l.toArray.size by omega] at this
  exact this
theorem round_later_all {l n : Nat} {id : Nat} {a : Act} {w : World} {ops : List Oper} (hm : P.follows .mixedOrders = true) (hd : noDeferB ops = true) (hq : ¬ LetsOut Q) (hB : Region.lexB .any ops.toArray = true)
    (h : wpQuiet P ops.toArray (fun w' => ∃ u : Later w, w' = u.world) (fun a' => ∀ w', Below w.heap.size w w' → Q .normal a' w') ops a) : (Code.region id ops.toArray true).wpIn (Fence.wide.inRound l) n P Q a w :=
  region_in_round hm hd hq (any_of_quiet (C := fun w' => ∃ u : Later w, w' = u.world) hB ⟨⟨_, (Below.refl _ _).drew⟩, rfl⟩ (wpQuiet_mono (fun a' hh w' hw' => by obtain ⟨u, rfl⟩ := hw'; exact hh _ u.below) _ _ h))
theorem round_later_tail {l n : Nat} {id : Nat} {a : Act} {w : World} {ops : List Oper} (m : Nat) (hm : P.follows .mixedOrders = true) (hd : noDeferB ops = true) (hq : ¬ LetsOut Q) (hB : Region.lexTailB .any ops.toArray m = true)
    (h : wpQuiet P ops.toArray (fun w' => ∃ u : Later w, w' = u.world) (fun a' => ∀ w', Below w.heap.size w w' → wpList P ops.toArray Q (ops.drop m) a' w') (ops.take m) a) : (Code.region id ops.toArray true).wpIn (Fence.wide.inRound l) n P Q a w :=
  region_in_round hm hd hq (any_of_quiet_tail (C := fun w' => ∃ u : Later w, w' = u.world) m hB ⟨⟨_, (Below.refl _ _).drew⟩, rfl⟩ (wpQuiet_mono (fun a' hh w' hw' => by obtain ⟨u, rfl⟩ := hw'; exact hh _ u.below) _ _ h))
theorem not_out_two {l : Nat} {rec : Loop} {R : Ending → World → Prop} : ¬ LetsOut (twoPost P l rec R) := fun ⟨_, _, h⟩ => h
theorem not_out_then {K : Act → World → Prop} {Q : Exit → Act → World → Prop} (h : ¬ LetsOut Q) : ¬ LetsOut (Exit.then K Q) := fun ⟨a, w, h'⟩ => h ⟨a, w, h'⟩
theorem not_out_block {k : Nat} {Q : Exit → Act → World → Prop} (h : ¬ LetsOut Q) : ¬ LetsOut (Exit.inBlock k Q) := fun ⟨a, w, h'⟩ => h ⟨a, w, h'⟩
end
end Go.Proofs.YtidboecjllaofaaGreat

/- What a range over a function keeps, in general. -/
namespace Go.Proofs.YtidboecjllaofaaGreat
open Go.RowKit Go.Shelf
set_option linter.unusedVariables false

/-- Numbers as integers. -/
def nats (l : List Nat) : List Int := l.map (fun (x : Nat) => (x : Int))
theorem natsInj {a b : List Nat} (h : nats a = nats b) : a = b := by
  unfold nats at h
  have h2 := congrArg (List.map Int.toNat) h
  simpa [Function.comp_def] using h2
/-- All cells are as they were. -/
theorem SameCells.refl (w : World) : SameCells w w := fun _ _ _ _ h => h
theorem SameCells.trans {a b c : World} (h : SameCells a b) (h' : SameCells b c) : SameCells a c := fun k x t z hk => h' k x t z (h k x t z hk)
theorem SameCells.below {a b c : World} (h : SameCells a b) (h' : Below b.heap.size b c) : SameCells a c := fun k x t z hk => (h'.block k (Array.getElem?_eq_some_iff.1 (h k x t z hk)).1).trans (h k x t z hk)
theorem blk_of_cell {w : World} {b o : Nat} {v : Value} (h : w.cell? ⟨b, o, none⟩ = some v) : ∃ c t z, w.heap[b]? = some (.cells c t z) := by
  unfold World.cell? at h
  cases ho : w.heap[b]? with
  | none => simp [ho] at h
  | some ob => cases ob <;> simp_all
theorem SameCells.cell {w w' : World} (h : SameCells w w') {b o : Nat} {v : Value} (hc : w.cell? ⟨b, o, none⟩ = some v) : w'.cell? ⟨b, o, none⟩ = some v := by
  obtain ⟨c, t, z, hb⟩ := blk_of_cell hc
  have hb' := h _ _ _ _ hb
  unfold World.cell? at hc ⊢
  rw [hb'] ; rw [hb] at hc; exact hc
theorem SlR.same {w w' : World} {a : Option Addr} {n sz : Nat} {xs : List Value} (h : SlR w a n sz xs) (hs : SameCells w w') (hsz : w.heap.size ≤ w'.heap.size) : SlR w' a n sz xs := by
  refine ⟨h.1, h.2.1, fun hn => ?_⟩
  obtain ⟨b, o, ha, hlt, hc⟩ := h.2.2 hn
  exact ⟨b, o, ha, Nat.lt_of_lt_of_le hlt hsz, fun i u hu => hs.cell (hc i u hu)⟩
theorem ER.same {α : Type} {enc : α → List Value} {k : Nat} {w w' : World} {a : Option Addr} {n : Nat} {l : List α} (h : ER enc k w a n l) (hs : SameCells w w') (hsz : w.heap.size ≤ w'.heap.size) : ER enc k w' a n l := ⟨h.1, h.2.same hs hsz⟩
theorem cells_set {W : World} {b : Nat} {t : TypeId} {x v : Value} (h : W.heap[b]? = some (.cells #[x] t)) : (W.setCell ⟨b, 0, none⟩ v).heap[b]? = some (.cells #[v] t) := by
  simp [World.setCell, Array.getElem?_modify, h]
theorem heap_set_ne {W : World} {b k : Nat} {v : Value} (h : k ≠ b) : (W.setCell ⟨b, 0, none⟩ v).heap[k]? = W.heap[k]? := by
  simp [World.setCell, Array.getElem?_modify, h.symm]
/-- What a range over the pairs keeps. -/
def RInv (lr D : Nat) (rec : Loop) (w wa W : World) : Prop := W.heap[lr]? = some (.loop rec) ∧ W.heap[D]? = some (.deferred (some [])) ∧ SameCells wa W ∧ wa.heap.size ≤ W.heap.size ∧ Below w.heap.size w W
theorem RInv.below {lr D : Nat} {rec : Loop} {w wa A B : World} (h : RInv lr D rec w wa A) (hb : Below A.heap.size A B) : RInv lr D rec w wa B :=
  ⟨(hb.block _ (Array.getElem?_eq_some_iff.1 h.1).1).trans h.1, (hb.block _ (Array.getElem?_eq_some_iff.1 h.2.1).1).trans h.2.1, h.2.2.1.below hb, Nat.le_trans h.2.2.2.1 hb.size, h.2.2.2.2.trans (hb.mono h.2.2.2.2.size)⟩
theorem SameCells.put {w w' : World} {l : Nat} {r r' : Loop} (h : SameCells w w') (hl : w'.heap[l]? = some (.loop r)) : SameCells w (w'.putObj l (.loop r')) := fun k c t z hk => by
  have h1 := h k c t z hk
  rw [World.putObj_heap_other (by rintro rfl; rw [hl] at h1; cases h1)]
  exact h1
/-- Where a round goes on: the record is ready again. -/
theorem RInv.ready {lr D : Nat} {rec RB : Loop} {w wa A1 W : World} (h1 : SameCells wa W) (h2 : wa.heap.size ≤ W.heap.size) (h3 : Below w.heap.size w W) (h4 : W.heap[lr]? = some (.loop RB)) (h5 : W.heap[D]? = some (.deferred (some []))) (hw : w.heap.size ≤ lr) : RInv lr D rec w wa (W.putObj lr (.loop rec)) :=
  ⟨World.putObj_heap_same (Array.getElem?_eq_some_iff.1 h4).1, (World.putObj_heap_other (by rintro rfl; rw [h5] at h4; cases h4)).trans h5, h1.put h4, by rw [World.putObj_size]; exact h2, h3.trans (belowK_b (w := w) (Nat.le_refl _) W lr _ _ hw h4 rfl rfl)⟩
/-- The marks of the loops so far. -/
def MK (w : World) (Ds : List Nat) (W : World) : Prop := Ds.Nodup ∧ ∀ D ∈ Ds, w.heap.size ≤ D ∧ W.heap[D]? = some (.deferred (some []))
theorem MK.below {w A B : World} {Ds : List Nat} (h : MK w Ds A) (hb : Below A.heap.size A B) : MK w Ds B := ⟨h.1, fun D hD => ⟨(h.2 D hD).1, (hb.block _ (Array.getElem?_eq_some_iff.1 (h.2 D hD).2).1).trans (h.2 D hD).2⟩⟩
theorem MK.put {w A : World} {Ds : List Nat} {l : Nat} {r r' : Loop} (h : MK w Ds A) (hl : A.heap[l]? = some (.loop r)) : MK w Ds (A.putObj l (.loop r')) := ⟨h.1, fun D hD => ⟨(h.2 D hD).1, (World.putObj_heap_other (by rintro rfl; rw [(h.2 D hD).2] at hl; cases hl)).trans (h.2 D hD).2⟩⟩
theorem MK.set {w A : World} {Ds : List Nat} {b : Nat} {t : TypeId} {x v : Value} (h : MK w Ds A) (hb : A.heap[b]? = some (.cells #[x] t)) : MK w Ds (A.setCell ⟨b, 0, none⟩ v) := ⟨h.1, fun D hD => ⟨(h.2 D hD).1, (heap_set_ne (by rintro rfl; rw [(h.2 D hD).2] at hb; cases hb)).trans (h.2 D hD).2⟩⟩
theorem MK.cons {w A : World} {Ds : List Nat} {D : Nat} (h : MK w Ds A) (hD : A.heap[D]? = some (.deferred (some []))) (hw : w.heap.size ≤ D) (hn : D ∉ Ds) : MK w (D :: Ds) A := ⟨List.nodup_cons.2 ⟨hn, h.1⟩, fun E hE => by
  rcases List.mem_cons.1 hE with rfl | hE
  · exact ⟨hw, hD⟩
  · exact h.2 E hE⟩
theorem SameCells.set {w A : World} {b : Nat} {v : Value} (h : SameCells w A) (hb : w.heap[b]? = none) : SameCells w (A.setCell ⟨b, 0, none⟩ v) := fun k c t z hk => by
  rw [heap_set_ne (by rintro rfl; rw [hb] at hk; cases hk)]
  exact h k c t z hk
theorem own_put {w : World} {base n sz l : Nat} {e : TypeId} {v : Value} {xs : List Value} {r r' : Loop} (h : w.ownsRow base e sz v n xs) (hl : w.heap[l]? = some (.loop r)) : (w.putObj l (.loop r')).ownsRow base e sz v n xs := by
  refine ⟨h.1, ?_⟩
  rcases h.2 with hn | ⟨g, cap, cur, rfl, hbase, hgg, rest⟩
  · exact .inl hn
  · refine .inr ⟨g, cap, cur, rfl, hbase, ?_, rest⟩
    rw [World.putObj_heap_other (by rintro rfl; rw [hl] at hgg; cases hgg)]
    exact hgg
theorem own_same {w w' : World} {base n sz : Nat} {e : TypeId} {v : Value} {xs : List Value} (h : w.ownsRow base e sz v n xs) (hs : SameCells w w') : w'.ownsRow base e sz v n xs := by
  refine ⟨h.1, ?_⟩
  rcases h.2 with hn | ⟨g, cap, cur, rfl, hbase, hgg, rest⟩
  · exact .inl hn
  · exact .inr ⟨g, cap, cur, rfl, hbase, hs _ _ _ _ hgg, rest⟩
theorem wpListIn_int {F : Fence} {N : Nat} {ops : Array Oper} {rest : List Oper} {o : Oper} {a : Act} {Q : Exit → Act → World → Prop} (w : World) (hgd : o.guard = none) (s x : Operand)
    (ho : o.op = .call { callee := .builtin .append, args := #[s, x], argTypes := #[62, 62] }) (base n B : Nat) (v : Value) (xs : List Value) (u : Int) (hs : a.eval s = v)
    (hown : w.ownsRow base 3 1 v n xs) (hx : a.eval x = .slice (some ⟨B, 0, none⟩) 1 1) (hc : w.cell? ⟨B, 0, none⟩ = some (.int .i64 u)) (hn : n ≤ 1000000) (hbase : base ≤ w.heap.size)
    (h : ∀ v' w', w'.ownsRow base 3 1 v' (n + 1) (xs ++ [.int .i64 u]) → w.grownBy w' v.ownBlock → Below base w w' → wpListIn F N Tryz.prog ops Q rest (a.put o.dst v') w') : wpListIn F N Tryz.prog ops Q (o :: rest) a w := by
  obtain ⟨i, hi1, hi2, hi3, hi4⟩ := info_parts infoInt
  have hmul : (n + 1) * 8 ≤ 1000001 * 8 := Nat.mul_le_mul (by omega) (by omega)
  refine wpListIn_append_own w hgd s x 62 ho base 3 i _ 1 8 Tryz.underlying62 hi1 hi2 hi3 hi4 rfl (by omega) v n xs hs hown ⟨B, 0, none⟩ 1 1 [.int .i64 u] hx (by simp) (fun j u' hu => by
      match j with
      | 0 =>
        simp only [List.getElem?_cons_zero, Option.some.injEq] at hu
        subst hu
        rw [Addr.add_lit, Nat.zero_add]; exact hc
      | j + 1 => simp at hu) (by simp [Value.oneCell']) (by unfold maxLen; omega) (by omega) hbase
    (fun v' w' h2 h3 _ => h v' w' h2 h3 ((Below.refl base w).grown h3 hbase (fun k hk => (hown.lt k hk).1)))
theorem own_otherX {w w' : World} {base n sz : Nat} {e : TypeId} {v : Value} {xs : List Value} (h : w.ownsRow base e sz v n xs) (hg : w.grownBy w' v.ownBlock) {t : TypeId} (ht : e ≠ t) : ∀ (B : Nat) cur z, w.heap[B]? = some (.cells cur t z) → w'.heap[B]? = some (.cells cur t z) := fun B cur z hB => by
  rw [hg.block B (Array.getElem?_eq_some_iff.1 hB).1 (fun e => ?_)]
  · exact hB
  · rcases h.2 with ⟨rfl, _⟩ | ⟨g, cap, cur', rfl, _, hgg, _⟩
    · simp [Value.ownBlock] at e
    · simp only [Value.ownBlock, Option.some.injEq] at e
      subst e
      rw [hgg] at hB
      simp only [Option.some.injEq, Obj.cells.injEq] at hB
      exact absurd hB.2.1 ht
end Go.Proofs.YtidboecjllaofaaGreat

/- The contacts that may change in a state: the iterator, MovesIn; the reference's MayChange and Moves. -/
namespace Go.Proofs.YtidboecjllaofaaGreat
open Go.RowKit
set_option linter.unusedVariables false
set_option linter.unusedSimpArgs false

/-- The contacts below i that may change. -/
def movU (m : Mac) (s i : Nat) : List Nat := (List.range i).filter (mayB m s)
theorem movU_yes {m : Mac} {s i : Nat} (h : mayB m s i = true) : movU m s (i + 1) = movU m s i ++ [i] := by unfold movU; rw [List.range_succ, List.filter_append]; simp [h]
theorem movU_no {m : Mac} {s i : Nat} (h : mayB m s i = false) : movU m s (i + 1) = movU m s i := by unfold movU; rw [List.range_succ, List.filter_append]; simp [h]
theorem movU_all (m : Mac) (s : Nat) : movU m s m.br.length = movL m s := rfl
/-- What the iterator needs of a world: the boxes of the machine and of the state, the guards. -/
def MovW (m : Mac) (s XM XS : Nat) (ab ag : Option Addr) (nb cb ng cg : Nat) (A : World) : Prop :=
  A.heap[XM]? = some (.cells #[.slice ab nb cb, .int .i64 m.st, .slice ag ng cg] 162) ∧ A.heap[XS]? = some (.cells #[.int .i64 (s : Int)] 168) ∧ GrR A ag ng m.gs
theorem MovW.below {m : Mac} {s XM XS : Nat} {ab ag : Option Addr} {nb cb ng cg : Nat} {A B : World} (h : MovW m s XM XS ab ag nb cb ng cg A) (hb : Below A.heap.size A B) : MovW m s XM XS ab ag nb cb ng cg B :=
  ⟨blk_below h.1 hb, blk_below h.2.1 hb, h.2.2.below hb⟩
set_option maxHeartbeats 2000000 in
set_option maxRecDepth 100000 in
theorem moves_calls (m : Mac) (s XM XS lr : Nat) (ab ag : Option Addr) (nb cb ng cg : Nat) (J : List Nat → World → Prop) (Jx : World → Prop) (W : World) (hm : MacV m) (hnb : m.br.length = nb) (hs : s < 64)
    (hJ : ∀ L A B, J L A → Below A.heap.size A B → J L B)
    (hQ : ∀ L A, J L A → MovW m s XM XS ab ag nb cb ng cg A)
    (hY : ∀ i A, i < nb → mayB m s i = true → J (movU m s i) A → YieldAt Fence.wide 1 Tryz.prog lr #[.int .i64 (i : Int)] A (fun e B => (e = .returned (.bool true) ∧ J (movU m s i ++ [i]) B) ∨ (e = .returned (.bool false) ∧ Jx B)))
    (h0 : J [] W) :
    Calls Tryz.prog 177 #[.func (.yield lr) #[] #[], .pointer (some ⟨XM, 0, none⟩), .pointer (some ⟨XS, 0, none⟩)] W (fun e B => (∃ v, e = .returned v) ∧ (J (movL m s) B ∨ Jx B)) := by
  have HJ := Lib.hid hJ
  have HY := Lib.hid hY
  have HQ := Lib.hid hQ
  have HN := Lib.hid hnb
  have hn6 : nb ≤ 6 := by rw [← hnb]; exact hm.n1
  have HMC := Lib.hid (fun (i : Nat) (hi : i < nb) (A : World) (hg : GrR A ag ng m.gs) => mayChange_any m s i ab ag nb cb ng cg A hm hg hs (by omega))
  clear hJ hY hQ hm hnb
  have hq := HQ.out _ _ h0
  have q0 := blk_cell hq.1 (i := 0) rfl
  have lq := blk_lt hq.1
  clear hq
  go_enter Tryz.func177, Tryz.ntmps177
  go_wp2_with fail
  clear q0 lq
  go_loopw [9] (fun x wr => ∃ i : Nat, x = .int .i64 (i : Int) ∧ i ≤ nb ∧ Hid (J (movU m s i) wr)) (fun x _ => nb - (intOf x).toNat)
  case atStart => exact ⟨0, rfl, Nat.zero_le _, Lib.hid h0⟩
  case round =>
    obtain ⟨i, rfl, hi, hJi⟩ := hrel
    have i0 : (0 : Int) ≤ (i : Int) := by omega
    by_cases hlt : i < nb
    · have i1 : (i : Int) < (nb : Int) := by omega
      have hq := HQ.out _ _ hJi.out
      have q0 := blk_cell hq.1 (i := 0) rfl
      have q1 := blk_cell hq.1 (i := 1) rfl
      have q2 := blk_cell hq.1 (i := 2) rfl
      have q3 := blk_cell hq.2.1 (i := 0) rfl
      have lq := blk_lt hq.1
      have lq2 := blk_lt hq.2.1
      have HMX := Lib.hid (HMC.out i hlt wr hq.2.2)
      clear hq
      obtain ⟨mb, hmb⟩ : ∃ b, b = mayB m s i := ⟨_, rfl⟩
      rw [← hmb] at HMX
      have HMB := Lib.hid hmb
      clear hmb
      cases mb
      · go_wp2_with fail
        refine (HMX.out).mono ?_
        rintro e5 w5 ⟨rfl, hb5⟩
        have hJ5 := Lib.hid (HJ.out _ _ _ hJi.out hb5)
        clear hb5 q0 q1 q2 q3 lq lq2 HMX hJi
        go_wp2_with fail
        go_roundw
        case rel => exact ⟨i + 1, by go_num, by omega, by rw [movU_no HMB.out.symm]; exact hJ5⟩
        case measure => simp [intOf]; omega
      · go_upto_region 3 with (fail)
        go_cut [21] from 12 to 21 (fun v21 wx => (v21 = .bool false ∧ J (movU m s i ++ [i]) wx) ∨ (v21 = .bool true ∧ Jx wx))
        case first =>
          refine (wpIn_wide (n := 2)).1 ?_
          gi_wp2
          refine ⟨trivial, CallsIn.mono (callsIn_wide.2 HMX.out) ?_⟩
          rintro e5 w5 ⟨rfl, hb5⟩
          have hJ5 := HJ.out _ _ _ hJi.out hb5
          obtain ⟨fn, tmps, assign, body, hy, hR⟩ := HY.out i w5 hlt HMB.out.symm hJ5
          gi_wp2
          refine hR.mono ?_
          rintro e W' (⟨rfl, hJ2⟩ | ⟨rfl, hJx⟩)
          · gi_wp2
            go_meet
            exact .inl ⟨rfl, hJ2⟩
          · gi_wp2
            go_meet
            exact .inr ⟨rfl, hJx⟩
        case rest =>
          rcases hcut with ⟨rfl, hJ2⟩ | ⟨rfl, hJ2⟩
          · have hJ2 := Lib.hid hJ2
            go_wp2
            go_roundw
            case rel => exact ⟨i + 1, by go_num, by omega, by rw [movU_yes HMB.out.symm]; exact hJ2⟩
            case measure => simp [intOf]; omega
          · go_wp2
            refine bodyPost_ret (results_none rfl _ _ _) rfl ?_
            exact ⟨⟨_, rfl⟩, .inr hJ2⟩
    · obtain rfl : nb = i := by omega
      have hJe := hJi.out
      have e : movU m s nb = movL m s := by rw [← HN.out]; exact movU_all m s
      rw [e] at hJe
      clear hJi e
      go_wp2
      go_end0
      exact ⟨⟨_, rfl⟩, .inl hJe⟩
end Go.Proofs.YtidboecjllaofaaGreat

/- The contacts that may change, collected; MovesIn. -/
namespace Go.Proofs.YtidboecjllaofaaGreat
open Go.RowKit Go.Shelf
set_option linter.unusedVariables false
set_option linter.unusedSimpArgs false
attribute [local go_sem] Oper.semAt_some

theorem cf_moves (args : Array Value) (w : World) : (callFunc 177 args).run Tryz.prog w = .ok (.enter 177 args) w := by kernel_rfl
theorem MovW.same {m : Mac} {s XM XS : Nat} {ab ag : Option Addr} {nb cb ng cg : Nat} {A B : World} (h : MovW m s XM XS ab ag nb cb ng cg A) (hs : SameCells A B) (hz : A.heap.size ≤ B.heap.size) : MovW m s XM XS ab ag nb cb ng cg B :=
  ⟨hs _ _ _ _ h.1, hs _ _ _ _ h.2.1, ER.same h.2.2 hs hz⟩
theorem movU_len (m : Mac) (s i : Nat) : (movU m s i).length ≤ i := by
  unfold movU
  exact Nat.le_trans (List.length_filter_le _ _) (by simp)
set_option maxHeartbeats 4000000 in
set_option maxRecDepth 100000 in
theorem appendMoves_any (m : Mac) (s XM XS : Nat) (ab ag : Option Addr) (nb cb ng cg : Nat) (w : World) (hm : MacV m) (hnb : m.br.length = nb) (hs : s < 64) (hW0 : MovW m s XM XS ab ag nb cb ng cg w) :
    Calls Tryz.prog 176 #[.slice none 0 0, .func (.func 177) #[] #[.pointer (some ⟨XM, 0, none⟩), .pointer (some ⟨XS, 0, none⟩)]] w fun e' w' => ∃ a' n' c', e' = .returned (.slice a' n' c') ∧ Below w.heap.size w w' ∧ IntsR w' a' n' (nats (movL m s)) := by
  have hn6 : nb ≤ 6 := by rw [← hnb]; exact hm.n1
  have HM := Lib.hid (And.intro hm hnb)
  have HW0 := Lib.hid hW0
  clear hm hnb hW0
  refine (callsIn_wide (n := 3)).1 ?_
  refine callsIn_of_wp_marks Tryz.func176 rfl trivial ?_ rfl
  simp only [Tryz.ntmps176, List.size_toArray, List.length_cons, List.length_nil, Nat.reduceAdd, Nat.reduceSub, Array.replicate_succ, Array.replicate_zero, List.push_toArray, List.append_toArray, List.nil_append, List.cons_append]
  refine (wpIn_wide (n := 3)).2 ?_
  go_wp2_with fail
  obtain ⟨X8, hX8⟩ : ∃ X, X = w.heap.size := ⟨_, rfl⟩
  rw [← hX8]
  obtain ⟨w6, hW6⟩ : ∃ w6, w6 = w.alloc (Obj.cells #[.slice none 0 0] 62) := ⟨_, rfl⟩
  rw [← hW6]
  have hb6 : Below w.heap.size w w6 := by rw [hW6]; (repeat' (first | (with_reducible exact Below.refl _ _) | (with_reducible assumption) | (with_reducible refine Below.drewN ?_ _) | (with_reducible refine Below.alloc ?_ ?_ _) | (with_reducible refine Below.drew ?_) | (with_reducible refine Below.setCell ?_ ?_ _) | (with_reducible refine Below.step (by assumption) ?_ ?_) | (with_reducible exact And.left (by assumption)) | go_size))
  have k8 : w6.heap[X8]? = some (.cells #[.slice none 0 0] 62) := by rw [hW6, hX8]; exact heap_alloc_new _ _
  have hz6 : w6.heap.size = X8 + 1 := by rw [hW6, hX8]; simp
  have n8 : w.heap[X8]? = none := Array.getElem?_eq_none (by omega)
  have hw8 : w.heap.size ≤ X8 := by omega
  have hS6 := (SameCells.refl w).below hb6
  clear hW6
  refine (wpIn_wide (n := 3)).1 ?_
  refine range_two (gf := 177) (fst := #[]) (lst := #[.pointer (some ⟨XM, 0, none⟩), .pointer (some ⟨XS, 0, none⟩)]) rfl cf_moves ?_
  intro rec hst hpe hpa htm has hbo
  have hL1 : ((w6.alloc (.deferred (some []))).alloc (.loop rec)).heap[w6.heap.size + 1]? = some (.loop rec) := by
    have := World.alloc_heap_new (w6.alloc (.deferred (some []))) (.loop rec); rwa [World.size_alloc] at this
  have hK1 : ((w6.alloc (.deferred (some []))).alloc (.loop rec)).heap[w6.heap.size]? = some (.deferred (some [])) := (Below.heap_alloc _ _ _ (by simp)).trans (World.alloc_heap_new w6 _)
  have hb9 : Below w6.heap.size w6 ((w6.alloc (.deferred (some []))).alloc (.loop rec)) := by (repeat' (first | (with_reducible exact Below.refl _ _) | (with_reducible assumption) | (with_reducible refine Below.drewN ?_ _) | (with_reducible refine Below.alloc ?_ ?_ _) | (with_reducible refine Below.drew ?_) | (with_reducible refine Below.setCell ?_ ?_ _) | (with_reducible refine Below.step (by assumption) ?_ ?_) | (with_reducible exact And.left (by assumption)) | go_size))
  have hz9 : ((w6.alloc (.deferred (some []))).alloc (.loop rec)).heap.size = w6.heap.size + 2 := by simp
  generalize (w6.alloc (.deferred (some []))).alloc (.loop rec) = w9 at *
  obtain ⟨lr, hlr⟩ : ∃ lr, lr = w6.heap.size + 1 := ⟨_, rfl⟩
  obtain ⟨D, hD⟩ : ∃ D, D = w6.heap.size := ⟨_, rfl⟩
  rw [← hlr] at hL1
  rw [← hD] at hK1
  simp only [← hlr]
  simp only [← hD]
  have x8D : X8 < D := by omega
  have dl : D < lr := by omega
  have hwD : w.heap.size ≤ D := by omega
  have hl9 : w9.heap.size = lr + 1 := by omega
  have hI9 : RInv lr D rec w w w9 := ⟨hL1, hK1, hS6.below hb9, Nat.le_trans hb6.size hb9.size, hb6.trans (hb9.mono hb6.size)⟩
  have h8 := (hb9.block _ (Array.getElem?_eq_some_iff.1 k8).1).trans k8
  clear hL1 hK1 hb9 hlr hD hS6 k8 hz9 hb6 hz6 hX8
  show CallsIn Fence.wide _ _ _ #[.func (.yield lr) #[] #[], .pointer (some ⟨XM, 0, none⟩), .pointer (some ⟨XS, 0, none⟩)] _ _
  refine (callsIn_wide.2 (moves_calls m s XM XS lr ab ag nb cb ng cg
    (fun L B => RInv lr D rec w w B ∧ ∃ q av cv, B.heap[X8]? = some (.cells #[.slice av q cv] 62) ∧ B.ownsRow (lr + 1) 3 1 (.slice av q cv) q (icells (nats L)))
    (fun _ => False) w9 HM.out.1 HM.out.2 hs ?_ ?_ ?_ ⟨hI9, 0, none, 0, h8, World.ownsRow_nil _ _ _ _⟩)).mono ?_
  · rintro L A B ⟨h1, q, av, cv, h3, h4⟩ hb
    exact ⟨h1.below hb, q, av, cv, (hb.block _ (Array.getElem?_eq_some_iff.1 h3).1).trans h3, owns_below h4 hb (fun z hz => (h4.lt z hz).2)⟩
  · rintro L A ⟨h1, _⟩
    exact HW0.out.same h1.2.2.1 h1.2.2.2.1
  · rintro i A hi hmb ⟨h1, q, av, cv, h3, h4⟩
    have hql : q ≤ 400 := by
      have e1 := h4.1
      have e2 := movU_len m s i
      simp only [icells, nats, List.length_map] at e1
      omega
    refine yield_two h1.1 hst hpe (by rw [hpa]; rfl) ?_
    obtain ⟨RB, hRB⟩ : ∃ RB : Loop, RB = { rec with state := .busy } := ⟨_, rfl⟩
    rw [← hRB]
    have HRB := Lib.hid hRB
    clear hRB
    rw [has, hbo, hpa, htm]
    clear has hbo hpa htm hst hpe
    gi_wp2
    have hjl := h1.1
    have hI := h1
    refine ⟨hjl, ?_⟩
    have hB1 : SameCells w (A.putObj lr (.loop RB)) := hI.2.2.1.put hjl
    have hB2 : w.heap.size ≤ (A.putObj lr (.loop RB)).heap.size := by rw [World.putObj_size]; exact hI.2.2.2.1
    have hB3 : Below w.heap.size w (A.putObj lr (.loop RB)) := hI.2.2.2.2.trans (belowK_b (w := w) (Nat.le_refl _) A lr _ _ (by omega) hjl rfl rfl)
    have hB4 : (A.putObj lr (.loop RB)).heap[lr]? = some (.loop RB) := World.putObj_heap_same (Array.getElem?_eq_some_iff.1 hjl).1
    have hB5 : (A.putObj lr (.loop RB)).heap[D]? = some (.deferred (some [])) := (World.putObj_heap_other (by omega)).trans hI.2.1
    have e8 : (A.putObj lr (.loop RB)).heap[X8]? = _ := (World.putObj_heap_other (show X8 ≠ lr by omega)).trans h3
    have hR1 := own_put (r' := RB) h4 hjl
    generalize A.putObj lr (.loop RB) = A1 at *
    clear hI hjl h1 h3 h4
    have hnrm : ∀ (ac : Act) (W8 : World), W8.heap[lr]? = some (.loop RB) → W8.heap[D]? = some (.deferred (some [])) → SameCells w W8 → w.heap.size ≤ W8.heap.size → Below w.heap.size w W8 →
        (∃ q av cv, W8.heap[X8]? = some (.cells #[.slice av q cv] 62) ∧ W8.ownsRow (lr + 1) 3 1 (.slice av q cv) q (icells (nats (movU m s i ++ [i])))) →
        twoPost Tryz.prog lr rec (fun e B => (e = .returned (.bool true) ∧ (RInv lr D rec w w B ∧ ∃ q av cv, B.heap[X8]? = some (.cells #[.slice av q cv] 62) ∧ B.ownsRow (lr + 1) 3 1 (.slice av q cv) q (icells (nats (movU m s i ++ [i]))))) ∨ (e = .returned (.bool false) ∧ False)) .normal ac W8 := by
      rintro ac W8 g4 g5 g1 g2 g3 ⟨q', av', cv', g8, gR⟩
      exact ⟨by rw [← HRB.out]; exact g4, .inl ⟨rfl, RInv.ready (A1 := A1) g1 g2 g3 g4 g5 (by omega), q', av', cv', (World.putObj_heap_other (show X8 ≠ lr by omega)).trans g8, own_put gR g4⟩⟩
    have HNRM := Lib.hid hnrm
    have HF := Lib.hid (And.intro hB1 (And.intro hB2 (And.intro hB3 (And.intro hB4 (And.intro hB5 (And.intro e8 hR1))))))
    have y8 := cell_of_row _ _ 0 _ _ _ e8
    have f8 := frozen_of_row _ _ 0 _ _ e8
    simp only [List.getElem?_toArray, List.getElem?_cons_zero, List.getElem?_cons_succ] at y8
    have l8 : X8 < A1.heap.size := (Array.getElem?_eq_some_iff.1 e8).1
    have llr : lr < A1.heap.size := (Array.getElem?_eq_some_iff.1 hB4).1
    have HL := Lib.hid (show icells (nats (movU m s i ++ [i])) = icells (nats (movU m s i)) ++ [.int .i64 (i : Int)] by simp [nats, icells])
    clear hnrm hB1 hB2 hB3 hB4 hB5 e8 hR1
    gi_wp2_with (gi_at_builtin; refine wpListIn_int _ rfl _ _ rfl (lr + 1) q _ (.slice av q cv) (icells (nats (movU m s i))) (i : Int) rfl (HF.out.2.2.2.2.2.2.alloc _) rfl (by rw [cell_of_row _ _ 0 _ _ _ (heap_alloc_new _ _)]; rfl) (by omega) (by simp; omega) ?_)
    intro v2 w2 hown2 hgr2 hb2
    obtain ⟨av2, cv2, rfl, _, _⟩ := owns_slice hown2
    have hba : Below A1.heap.size A1 (A1.alloc (Obj.cells #[.int .i64 (i : Int)] 3)) := by (repeat' (first | (with_reducible exact Below.refl _ _) | (with_reducible assumption) | (with_reducible refine Below.drewN ?_ _) | (with_reducible refine Below.alloc ?_ ?_ _) | (with_reducible refine Below.drew ?_) | (with_reducible refine Below.setCell ?_ ?_ _) | (with_reducible refine Below.step (by assumption) ?_ ?_) | (with_reducible exact And.left (by assumption)) | go_size))
    rw [← HL.out] at hown2
    have hza := hba.size
    generalize A1.alloc (Obj.cells #[.int .i64 (i : Int)] 3) = wa at *
    have hb2' : Below (lr + 1) A1 w2 := (hba.mono (by omega)).trans hb2
    have e8 := (hb2'.block _ (by omega)).trans HF.out.2.2.2.2.2.1
    have z8 := cell_of_row _ _ 0 _ _ _ e8
    have f9 := frozen_of_row _ _ 0 _ _ e8
    simp only [List.getElem?_toArray, List.getElem?_cons_zero] at z8
    have hz2 := hb2'.size
    have l9 : X8 < w2.heap.size := by omega
    have HB2 := Lib.hid hb2'
    have HR2 := Lib.hid hown2
    have HE9 := Lib.hid e8
    clear hba hown2 hgr2 hb2 hb2' e8 hza
    gi_wp2
    obtain ⟨hB1, hB2, hB3, hB4, hB5, _, _⟩ := HF.out
    have hb2 := HB2.out
    have g4 := (hb2.block lr (by omega)).trans hB4
    have g5 := (hb2.block D (by omega)).trans hB5
    have hS2 : SameCells w w2 := fun j cc t z hj => (hb2.block j (by have := (Array.getElem?_eq_some_iff.1 hj).1; omega)).trans (hB1 j cc t z hj)
    have hBw2 : Below w.heap.size w w2 := hB3.trans (hb2.mono (by omega))
    exact HNRM.out _ _ ((heap_set_ne (show lr ≠ X8 by omega)).trans g4) ((heap_set_ne (show D ≠ X8 by omega)).trans g5) (hS2.set n8) (by simp; omega) (hBw2.setCell hw8 _)
      ⟨q + 1, av2, cv2, cells_set HE9.out, ownsRow_setCell_below HR2.out (a := ⟨X8, 0, none⟩) (by show X8 < lr + 1; omega) _⟩
  · rintro e W9 ⟨⟨v, rfl⟩, h⟩
    obtain ⟨h1, q, av, cv, h3, h4⟩ := h.resolve_right id
    refine ⟨⟨_, rfl⟩, .inl ⟨h1.1, ?_⟩⟩
    have hBw : Below w.heap.size w (W9.putObj lr (.loop { rec with state := .exhausted })) := h1.2.2.2.2.trans (belowK_b (w := w) (Nat.le_refl _) W9 lr _ _ (by omega) h1.1 rfl rfl)
    have g5 : (W9.putObj lr (.loop { rec with state := .exhausted })).heap[D]? = some (.deferred (some [])) := (World.putObj_heap_other (by omega)).trans h1.2.1
    have g8 : (W9.putObj lr (.loop { rec with state := .exhausted })).heap[X8]? = _ := (World.putObj_heap_other (show X8 ≠ lr by omega)).trans h3
    have hR := own_put (r' := { rec with state := .exhausted }) h4 h1.1
    generalize W9.putObj lr (.loop { rec with state := .exhausted }) = W2 at *
    have c8 := cell_of_row _ _ 0 _ _ _ g8
    simp only [List.getElem?_toArray, List.getElem?_cons_zero] at c8
    have l8 : X8 < W2.heap.size := (Array.getElem?_eq_some_iff.1 g8).1
    have HR := Lib.hid hR
    have HBw := Lib.hid hBw
    have H5 := Lib.hid g5
    clear h h1 h3 h4 hst hpe hpa htm has hbo hI9 h8 g8 hR hBw g5
    go_wp2_with fail
    refine leaves_marks (B := w.heap.size) (w0 := w) [D] W2 (by simp) (fun E hE => by simp at hE; subst hE; exact ⟨hwD, H5.out⟩) HBw.out (fun w' hs hb' => ⟨.slice av q cv, ?_, av, q, cv, rfl, hb', ?_⟩)
    · simp [results, Tryz.results176, go_sem]
    · exact SlR.of_owns (own_same HR.out hs)
theorem collectMoves_any (m : Mac) (s XM XS : Nat) (ab ag : Option Addr) (nb cb ng cg : Nat) (w : World) (hm : MacV m) (hnb : m.br.length = nb) (hs : s < 64) (hW0 : MovW m s XM XS ab ag nb cb ng cg w) :
    Calls Tryz.prog 123 #[.func (.func 177) #[] #[.pointer (some ⟨XM, 0, none⟩), .pointer (some ⟨XS, 0, none⟩)]] w fun e' w' => ∃ a' n' c', e' = .returned (.slice a' n' c') ∧ Below w.heap.size w w' ∧ IntsR w' a' n' (nats (movL m s)) := by
  have HA := Lib.hid (appendMoves_any m s XM XS ab ag nb cb ng cg w hm hnb hs hW0)
  clear hm hnb hs hW0
  go_enter Tryz.func123, Tryz.ntmps123
  go_wp2_with fail
  refine (HA.out).mono ?_
  rintro e5 w5 ⟨a', n', c', rfl, hb, hr⟩
  have HR := Lib.hid hr
  clear hr
  go_wp2
  go_ret
  exact ⟨a', n', c', rfl, hb, HR.out⟩
end Go.Proofs.YtidboecjllaofaaGreat

/- MovesIn; the reference's MayChange and Moves. -/
namespace Go.Proofs.YtidboecjllaofaaGreat
open Go.RowKit
set_option linter.unusedVariables false
set_option linter.unusedSimpArgs false

theorem moves_any (m : Mac) (s : Nat) (ab ag : Option Addr) (nb cb ng cg : Nat) (w : World) (hg : GrR w ag ng m.gs) :
    Calls Tryz.prog 124 #[.agg #[.slice ab nb cb, .int .i64 m.st, .slice ag ng cg], .int .i64 (s : Int)] w fun e' w' => ∃ XM XS, e' = .returned (.func (.func 177) #[] #[.pointer (some ⟨XM, 0, none⟩), .pointer (some ⟨XS, 0, none⟩)]) ∧ Below w.heap.size w w' ∧ MovW m s XM XS ab ag nb cb ng cg w' := by
  have HG := Lib.hid hg
  clear hg
  go_enter Tryz.func124, Tryz.ntmps124
  go_wp2
  obtain ⟨w1, hW⟩ : ∃ w1, w1 = (w.alloc (Obj.cells #[.slice ab nb cb, .int .i64 m.st, .slice ag ng cg] 162)).alloc (Obj.cells #[.int .i64 (s : Int)] 168) := ⟨_, rfl⟩
  rw [← hW]
  have hb1 : Below w.heap.size w w1 := by rw [hW]; (repeat' (first | (with_reducible exact Below.refl _ _) | (with_reducible assumption) | (with_reducible refine Below.drewN ?_ _) | (with_reducible refine Below.alloc ?_ ?_ _) | (with_reducible refine Below.drew ?_) | (with_reducible refine Below.setCell ?_ ?_ _) | (with_reducible refine Below.step (by assumption) ?_ ?_) | (with_reducible exact And.left (by assumption)) | go_size))
  have k1 : w1.heap[w.heap.size]? = some (.cells #[.slice ab nb cb, .int .i64 m.st, .slice ag ng cg] 162) := by rw [hW, Below.heap_alloc _ _ _ (by simp)]; exact heap_alloc_new _ _
  have k2 : w1.heap[w.heap.size + 1]? = some (.cells #[.int .i64 (s : Int)] 168) := by
    rw [hW]
    have := heap_alloc_new (w.alloc (Obj.cells #[.slice ab nb cb, .int .i64 m.st, .slice ag ng cg] 162)) (Obj.cells #[.int .i64 (s : Int)] 168)
    simpa using this
  refine bodyPost_ret (v := .func (.func 177) #[] #[.pointer (some ⟨w.heap.size, 0, none⟩), .pointer (some ⟨w.heap.size + 1, 0, none⟩)]) (by simp [results, Tryz.results124, go_sem]) rfl ⟨_, _, rfl, hb1, k1, k2, HG.out.below hb1⟩
/-- The error of a state of a machine. -/
def movE (m : Mac) (s : Int) : Int := firstErr [(macE m).2, staE m.br.length s]
set_option maxHeartbeats 1000000 in
set_option maxRecDepth 100000 in
theorem movesIn_any (m : Mac) (s : Int) (ab ag : Option Addr) (nb cb ng cg : Nat) (w : World) (hb : BrR w ab nb m.br) (hg : GrR w ag ng m.gs) (h8 : nb ≤ 8) :
    Calls Tryz.prog 47 #[.agg #[.slice ab nb cb, .int .i64 m.st, .slice ag ng cg], .int .i64 s] w fun e' w' => ∃ a' n' c', e' = .returned (.tuple #[.slice a' n' c', .int .i64 (movE m s)]) ∧ Below w.heap.size w w' ∧ IntsR w' a' n' (nats (if movE m s = 0 then movL m s.toNat else [])) := by
  have HO := Lib.hid (fun (W : World) (hbw : Below w.heap.size w W) => openMachine_any m ab ag nb cb ng cg W (hb.below hbw) (hg.below hbw))
  have HST := Lib.hid (fun (W : World) => m_staE_any m.st nb cb ng cg ab ag s W h8)
  have HLB := Lib.hid hb.len
  have HMV := Lib.hid (fun (n : Nat) (W : World) (hbw : Below w.heap.size w W) => moves_any m n ab ag nb cb ng cg W (hg.below hbw))
  have hE : movE m s = firstErr [(macE m).2, staE nb s] := by unfold movE; rw [hb.len]
  have HZ := Lib.hid (fun (h : movE m s = 0) => show MacV m ∧ 0 ≤ s ∧ s < 64 from by
    rw [hE, firstErr_cons, firstErr_cons] at h
    have hm := (macE_zero h.1).2
    have h2 := staE_zero.1 h.2.1
    have hp : (2 : Int) ^ nb ≤ 64 := by
      have := hm.n1
      rw [hb.len] at this
      have : nb = 0 ∨ nb = 1 ∨ nb = 2 ∨ nb = 3 ∨ nb = 4 ∨ nb = 5 ∨ nb = 6 := by omega
      rcases this with rfl | rfl | rfl | rfl | rfl | rfl | rfl <;> decide
    exact ⟨hm, h2.1, by omega⟩)
  have HCL := Lib.hid (fun (hm : MacV m) (hs : s.toNat < 64) (XM XS : Nat) (W : World) (hW : MovW m s.toNat XM XS ab ag nb cb ng cg W) => collectMoves_any m s.toNat XM XS ab ag nb cb ng cg W hm HLB.out hs hW)
  obtain ⟨st, hst⟩ : ∃ x, x = m.st := ⟨_, rfl⟩
  rw [← hst] at HO HST HMV ⊢
  generalize (macE m).2 = E1 at *
  generalize staE nb s = E2 at *
  obtain ⟨E, hEE⟩ : ∃ E, E = movE m s := ⟨_, rfl⟩
  rw [← hEE] at HZ hE ⊢
  have HE := Lib.hid hE
  obtain ⟨RL, hRL⟩ : ∃ R, R = if E = 0 then movL m s.toNat else [] := ⟨_, rfl⟩
  have HRL := Lib.hid hRL
  rw [← hRL]
  clear hb hg hst hE hEE hRL
  go_enter Tryz.func47, Tryz.ntmps47
  go_wp2_with fail
  refine (HO.out _ (by (repeat' (first | (with_reducible exact Below.refl _ _) | (with_reducible assumption) | (with_reducible refine Below.drewN ?_ _) | (with_reducible refine Below.alloc ?_ ?_ _) | (with_reducible refine Below.drew ?_) | (with_reducible refine Below.setCell ?_ ?_ _) | (with_reducible refine Below.step (by assumption) ?_ ?_) | (with_reducible exact And.left (by assumption)) | go_size)))).mono ?_
  rintro e5 w5 ⟨rfl, hb5⟩
  have HB5 := Lib.hid (show Below w.heap.size w w5 by (repeat' (first | (with_reducible exact Below.refl _ _) | (with_reducible assumption) | (with_reducible refine Below.drewN ?_ _) | (with_reducible refine Below.alloc ?_ ?_ _) | (with_reducible refine Below.drew ?_) | (with_reducible refine Below.setCell ?_ ?_ _) | (with_reducible refine Below.step (by assumption) ?_ ?_) | (with_reducible exact And.left (by assumption)) | go_size)))
  clear hb5
  go_wp2_with fail
  obtain ⟨w6, hW⟩ : ∃ w6, w6 = w5.alloc (Obj.cells #[.slice ab nb cb, .int .i64 st, .slice ag ng cg] 162) := ⟨_, rfl⟩
  rw [← hW]
  obtain ⟨X6, hX6⟩ : ∃ X, X = w5.heap.size := ⟨_, rfl⟩
  rw [← hX6]
  have hb6 : Below w5.heap.size w5 w6 := by rw [hW]; (repeat' (first | (with_reducible exact Below.refl _ _) | (with_reducible assumption) | (with_reducible refine Below.drewN ?_ _) | (with_reducible refine Below.alloc ?_ ?_ _) | (with_reducible refine Below.drew ?_) | (with_reducible refine Below.setCell ?_ ?_ _) | (with_reducible refine Below.step (by assumption) ?_ ?_) | (with_reducible exact And.left (by assumption)) | go_size))
  have k6 : w6.heap[X6]? = some (.cells #[.slice ab nb cb, .int .i64 st, .slice ag ng cg] 162) := by rw [hW, hX6]; exact heap_alloc_new _ _
  have HB6 := Lib.hid (HB5.out.trans (hb6.mono HB5.out.size))
  clear hW hX6 hb6 HB5
  refine (HST.out _).mono ?_
  rintro e7 w7 ⟨rfl, hb7⟩
  have k7 := blk_below k6 hb7
  have HB7 := Lib.hid (HB6.out.trans (hb7.mono HB6.out.size))
  clear hb7 k6 HB6
  go_wp2_with fail
  refine (t_first2 _ _ _ _ _ _ (by rfl) (by simp)).mono ?_
  rintro e8 w8 ⟨rfl, hw8⟩
  have hb8 : Below w7.heap.size w7 w8 := by rw [← hw8]; (repeat' (first | (with_reducible exact Below.refl _ _) | (with_reducible assumption) | (with_reducible refine Below.drewN ?_ _) | (with_reducible refine Below.alloc ?_ ?_ _) | (with_reducible refine Below.drew ?_) | (with_reducible refine Below.setCell ?_ ?_ _) | (with_reducible refine Below.step (by assumption) ?_ ?_) | (with_reducible exact And.left (by assumption)) | go_size))
  have k8 := blk_below k7 hb8
  have HB8 := Lib.hid (HB7.out.trans (hb8.mono HB7.out.size))
  clear hb8 k7 HB7 hw8
  rw [← HE.out]
  by_cases h0 : E = 0
  · subst h0
    obtain ⟨hm, s0, s1⟩ := HZ.out (by first | rfl | trivial)
    have HRX := Lib.hid (show RL = movL m s.toNat by rw [HRL.out, if_pos rfl])
    clear HRL
    obtain ⟨n, rfl⟩ : ∃ n : Nat, s = n := ⟨s.toNat, by omega⟩
    have c0 := blk_cell k8 (i := 0) rfl
    have c1 := blk_cell k8 (i := 1) rfl
    have c2 := blk_cell k8 (i := 2) rfl
    have l8 := blk_lt k8
    rw [Int.toNat_natCast] at HCL HRX
    have HCX := Lib.hid (HCL.out hm (by omega))
    clear hm k8 HCL
    go_wp2_with fail
    refine (HMV.out n _ HB8.out).mono ?_
    rintro e9 w9 ⟨XM, XS, rfl, hb9, hmw⟩
    have HB9 := Lib.hid (HB8.out.trans (hb9.mono HB8.out.size))
    have HCY := Lib.hid (HCX.out XM XS w9 hmw)
    clear hb9 hmw c0 c1 c2 l8 HCX
    go_wp2_with fail
    refine (HCY.out).mono ?_
    rintro e10 w10 ⟨a', n', c', rfl, hb10, hr⟩
    have HR := Lib.hid hr
    clear hr
    go_wp2
    go_ret2
    exact ⟨a', n', c', rfl, HB9.out.trans (hb10.mono HB9.out.size), by rw [HRX.out]; exact HR.out⟩
  · have HRX := Lib.hid (show RL = [] by rw [HRL.out, if_neg h0])
    have e1 := bne_iff_ne.2 h0
    clear h0 k8
    go_wp2
    go_ret2
    exact ⟨none, 0, 0, rfl, HB8.out, by rw [HRX.out]; exact SlR.nil _ _ _⟩
theorem and_eq : ∀ a < 64, ∀ s < 64, (bits .and .i64 ((a : Nat) : Int) ((s : Nat) : Int) == (a : Int)) = decide (a &&& s = a) := by decide +kernel
set_option maxHeartbeats 2000000 in
set_option maxRecDepth 100000 in
theorem rMayChange_any (m : Mac) (s i : Nat) (ab ag : Option Addr) (nb cb ng cg : Nat) (w : World) (hm : MacV m) (hg : GrR w ag ng m.gs) (hs : s < 64) (hi : i < 8) :
    Calls Tryz.prog 86 #[.agg #[.slice ab nb cb, .int .i64 m.st, .slice ag ng cg], .int .i64 (s : Int), .int .i64 (i : Int)] w fun e' w' => e' = .returned (.bool (mayB m s i)) ∧ Below w.heap.size w w' := by
  have hng := hg.small
  have HGR := Lib.hid (fun (W : World) (hbw : Below w.heap.size w W) => hg.below hbw)
  have HLG := Lib.hid hg.len
  have HOK := Lib.hid (grds_ok hm)
  have HH := Lib.hid (fun w' => isClosed_any s i w' hs hi)
  obtain ⟨br, st, gs⟩ := m
  unfold mayB
  simp only at HGR HLG HOK ⊢
  clear hg hm
  go_enter Tryz.func86, Tryz.ntmps86
  go_wp2_with fail
  obtain ⟨w1, hW⟩ : ∃ w1, w1 = w.alloc (Obj.cells #[.slice ab nb cb, .int .i64 st, .slice ag ng cg] 45) := ⟨_, rfl⟩
  rw [← hW]
  have hb1 : Below w.heap.size w w1 := by rw [hW]; (repeat' (first | (with_reducible exact Below.refl _ _) | (with_reducible assumption) | (with_reducible refine Below.drewN ?_ _) | (with_reducible refine Below.alloc ?_ ?_ _) | (with_reducible refine Below.drew ?_) | (with_reducible refine Below.setCell ?_ ?_ _) | (with_reducible refine Below.step (by assumption) ?_ ?_) | (with_reducible exact And.left (by assumption)) | go_size))
  have kM : w1.heap[w.heap.size]? = some (.cells #[.slice ab nb cb, .int .i64 st, .slice ag ng cg] 45) := by rw [hW]; exact heap_alloc_new _ _
  have HB1 := Lib.hid hb1
  clear hW hb1
  go_loopw [7] (fun x wr => ∃ k : Nat, x = .int .i64 (k : Int) ∧ k ≤ ng ∧ Hid ((gs.drop k).any (grdB s i) = gs.any (grdB s i)) ∧ Hid (Below w1.heap.size w1 wr)) (fun x _ => ng - (intOf x).toNat)
  case atStart => exact ⟨0, rfl, Nat.zero_le _, Lib.hid rfl, Lib.hid (Below.refl _ _)⟩
  case round =>
    obtain ⟨k, rfl, hk, hF, hB⟩ := hrel
    have k0 : (0 : Int) ≤ (k : Int) := by omega
    have km := blk_below kM hB.out
    by_cases hlt : k < ng
    · have k1 : (k : Int) < (ng : Int) := by omega
      obtain ⟨bb, ob, rfl, hbb, hcc⟩ := (HGR.out _ (HB1.out.trans (hB.out.mono HB1.out.size))).addr (by omega)
      have q2 : wr.cell? ⟨w.heap.size, 2, none⟩ = some (.slice (some ⟨bb, ob, none⟩) ng cg) := blk_cell km (i := 2) rfl
      have lr0 := blk_lt km
      obtain ⟨g, hx⟩ : ∃ g, gs[k]? = some g := get_of_lt HLG.out hlt
      obtain ⟨c0, c1, c2, c3⟩ := hcc k hlt
      rw [gAt_get hx] at c0 c1 c2 c3
      obtain ⟨ha, hb⟩ := HOK.out g (List.mem_of_getElem? hx)
      have hF' := hF.out
      rw [drop_cons' hx, List.any_cons] at hF'
      obtain ⟨gc, gl, gi, go⟩ := g
      simp only at c0 c1 c2 c3 ha hb
      obtain ⟨a, rfl⟩ : ∃ a : Nat, gi = a := ⟨gi.toNat, by omega⟩
      obtain ⟨b, rfl⟩ : ∃ b : Nat, go = b := ⟨go.toNat, by omega⟩
      have e1 := not_bits a (by omega) s hs
      have e2 := and_bits b (by omega) s hs
      obtain ⟨V, hV⟩ : ∃ V, V = grdB s i ⟨gc, gl, a, b⟩ := ⟨_, rfl⟩
      rw [← hV] at hF'
      have HF := Lib.hid hF'
      have e3 := and_eq a (by omega) s hs
      have hV2 : V = (((gc == (i : Int)) && (!(gl == s.testBit i))) && (bits .and .i64 ((a : Nat) : Int) ((s : Nat) : Int) == (a : Int)) && (bits .and .i64 ((b : Nat) : Int) ((s : Nat) : Int) == 0)) := by
        rw [hV, e3, e2]
        unfold grdB
        simp only [Int.toNat_natCast]
        congr 2
        congr 1
        rw [Bool.eq_iff_iff]; simp
      clear hV e1 e2 e3 hF' hF hx hcc
      obtain ⟨tb, htb⟩ : ∃ b, b = s.testBit i := ⟨_, rfl⟩
      have HHX := Lib.hid (fun w' => show Calls Tryz.prog 34 #[.int .i64 (s : Int), .int .i64 (i : Int)] w' fun e' w'' => e' = .returned (.bool tb) ∧ w' = w'' by rw [htb]; exact HH.out w')
      rw [← htb] at hV2
      clear htb
      obtain ⟨x1, hx1⟩ : ∃ x, x = (gc == (i : Int)) := ⟨_, rfl⟩
      obtain ⟨x2, hx2⟩ : ∃ x, x = (gl == tb) := ⟨_, rfl⟩
      obtain ⟨x3, hx3⟩ : ∃ x, x = (bits .and .i64 ((a : Nat) : Int) ((s : Nat) : Int) == (a : Int)) := ⟨_, rfl⟩
      obtain ⟨x4, hx4⟩ : ∃ x, x = (bits .and .i64 ((b : Nat) : Int) ((s : Nat) : Int) == 0) := ⟨_, rfl⟩
      rw [← hx1, ← hx2, ← hx3, ← hx4] at hV2
      have HV := Lib.hid hV2
      have f1 := hx1.symm
      have f2 := hx2.symm
      have f3 := hx3.symm
      have f4 := hx4.symm
      clear hV2 hx1 hx2 hx3 hx4 km HH
      have HH := HHX
      go_wp2_with fail
      obtain ⟨X6, hX6⟩ : ∃ X, X = wr.heap.size := ⟨_, rfl⟩
      rw [← hX6]
      obtain ⟨wa, hW⟩ : ∃ wa, wa = wr.alloc (Obj.cells #[.int .i64 gc, .bool gl, .int .i64 (a : Int), .int .i64 (b : Int)] 152) := ⟨_, rfl⟩
      rw [← hW]
      have hba : Below wr.heap.size wr wa := by rw [hW]; (repeat' (first | (with_reducible exact Below.refl _ _) | (with_reducible assumption) | (with_reducible refine Below.drewN ?_ _) | (with_reducible refine Below.alloc ?_ ?_ _) | (with_reducible refine Below.drew ?_) | (with_reducible refine Below.setCell ?_ ?_ _) | (with_reducible refine Below.step (by assumption) ?_ ?_) | (with_reducible exact And.left (by assumption)) | go_size))
      have k6 : wa.heap[X6]? = some (.cells #[.int .i64 gc, .bool gl, .int .i64 (a : Int), .int .i64 (b : Int)] 152) := by rw [hW, hX6]; exact heap_alloc_new _ _
      have hBa := Lib.hid (hB.out.trans (hba.mono hB.out.size))
      clear hW hX6 c0 c1 c2 c3 hbb hba hB q2 lr0
      have g0 := blk_cell k6 (i := 0) rfl
      have g1 := blk_cell k6 (i := 1) rfl
      have g2 := blk_cell k6 (i := 2) rfl
      have g3 := blk_cell k6 (i := 3) rfl
      have l6 := blk_lt k6
      clear k6
      cases x1
      · skip
        refine later_all (by kernel_rfl) (by kernel_rfl) ?_; repeat go_big_quiet_step(with_reducible exact calls_later_same (HH.out _))
        refine wpQuiet_nil ?_; intro w5 hb5
        have hB5 := Lib.hid (hBa.out.trans (hb5.mono hBa.out.size))
        clear hb5 g0 g1 g2 g3 l6
        skip
        go_wp2_with fail
        go_roundw
        case rel => exact ⟨k + 1, by go_num, by omega, Lib.hid (by have e := HF.out; rw [HV.out] at e; first | simpa using e | exact e), hB5⟩
        case measure => simp [intOf]; omega
      · cases x2
        · cases x3
          · skip
            refine later_all (by kernel_rfl) (by kernel_rfl) ?_; repeat go_big_quiet_step(with_reducible exact calls_later_same (HH.out _))
            refine wpQuiet_nil ?_; intro w5 hb5
            have hB5 := Lib.hid (hBa.out.trans (hb5.mono hBa.out.size))
            clear hb5 g0 g1 g2 g3 l6
            skip
            go_wp2_with fail
            go_roundw
            case rel => exact ⟨k + 1, by go_num, by omega, Lib.hid (by have e := HF.out; rw [HV.out] at e; first | simpa using e | exact e), hB5⟩
            case measure => simp [intOf]; omega
          · cases x4
            · skip
              refine later_all (by kernel_rfl) (by kernel_rfl) ?_; repeat go_big_quiet_step(with_reducible exact calls_later_same (HH.out _))
              refine wpQuiet_nil ?_; intro w5 hb5
              have hB5 := Lib.hid (hBa.out.trans (hb5.mono hBa.out.size))
              clear hb5 g0 g1 g2 g3 l6
              skip
              go_wp2_with fail
              go_roundw
              case rel => exact ⟨k + 1, by go_num, by omega, Lib.hid (by have e := HF.out; rw [HV.out] at e; first | simpa using e | exact e), hB5⟩
              case measure => simp [intOf]; omega
            · skip
              refine later_all (by kernel_rfl) (by kernel_rfl) ?_; repeat go_big_quiet_step(with_reducible exact calls_later_same (HH.out _))
              refine wpQuiet_nil ?_; intro w5 hb5
              have hB5 := Lib.hid (hBa.out.trans (hb5.mono hBa.out.size))
              clear hb5 g0 g1 g2 g3 l6
              skip
              go_wp2
              go_ret
              exact ⟨ret_bool (by have e := HF.out; rw [HV.out] at e; rw [← e]; rfl), HB1.out.trans (hB5.out.mono HB1.out.size)⟩
        · skip
          refine later_all (by kernel_rfl) (by kernel_rfl) ?_; repeat go_big_quiet_step(with_reducible exact calls_later_same (HH.out _))
          refine wpQuiet_nil ?_; intro w5 hb5
          have hB5 := Lib.hid (hBa.out.trans (hb5.mono hBa.out.size))
          clear hb5 g0 g1 g2 g3 l6
          skip
          go_wp2_with fail
          go_roundw
          case rel => exact ⟨k + 1, by go_num, by omega, Lib.hid (by have e := HF.out; rw [HV.out] at e; first | simpa using e | exact e), hB5⟩
          case measure => simp [intOf]; omega
    · have q2 : wr.cell? ⟨w.heap.size, 2, none⟩ = some (.slice ag ng cg) := blk_cell km (i := 2) rfl
      have lr0 := blk_lt km
      have HE := Lib.hid (show false = gs.any (grdB s i) by rw [← hF.out, drop_end gs k (by rw [HLG.out]; omega)]; rfl)
      clear hF km
      go_wp2
      go_ret
      exact ⟨ret_bool HE.out, HB1.out.trans (hB.out.mono HB1.out.size)⟩
set_option maxHeartbeats 1000000 in
set_option maxRecDepth 100000 in
theorem rMoves_any (m : Mac) (s : Nat) (ab ag : Option Addr) (nb cb ng cg : Nat) (w : World) (hm : MacV m) (hnb : m.br.length = nb) (hg : GrR w ag ng m.gs) (hs : s < 64) :
    Calls Tryz.prog 50 #[.agg #[.slice ab nb cb, .int .i64 m.st, .slice ag ng cg], .int .i64 (s : Int)] w fun e' w' => ∃ a' n' c', e' = .returned (.slice a' n' c') ∧ Below w.heap.size w w' ∧ IntsR w' a' n' (nats (movL m s)) := by
  have hn6 : nb ≤ 6 := by rw [← hnb]; exact hm.n1
  have HMC := Lib.hid (fun (i : Nat) (hi : i < nb) (W : World) (hbw : Below w.heap.size w W) => rMayChange_any m s i ab ag nb cb ng cg W hm (hg.below hbw) hs (by omega))
  have HEN := Lib.hid (show movU m s nb = movL m s by rw [← hnb]; exact movU_all m s)
  clear hg hm hnb
  obtain ⟨st, hst⟩ : ∃ x, x = m.st := ⟨_, rfl⟩
  rw [← hst] at HMC ⊢
  clear hst
  go_enter Tryz.func50, Tryz.ntmps50
  go_wp2_with fail
  obtain ⟨w1, hW⟩ : ∃ w1, w1 = w.alloc (Obj.cells #[.slice ab nb cb, .int .i64 st, .slice ag ng cg] 45) := ⟨_, rfl⟩
  rw [← hW]
  have hb1 : Below w.heap.size w w1 := by rw [hW]; (repeat' (first | (with_reducible exact Below.refl _ _) | (with_reducible assumption) | (with_reducible refine Below.drewN ?_ _) | (with_reducible refine Below.alloc ?_ ?_ _) | (with_reducible refine Below.drew ?_) | (with_reducible refine Below.setCell ?_ ?_ _) | (with_reducible refine Below.step (by assumption) ?_ ?_) | (with_reducible exact And.left (by assumption)) | go_size))
  have kM : w1.heap[w.heap.size]? = some (.cells #[.slice ab nb cb, .int .i64 st, .slice ag ng cg] 45) := by rw [hW]; exact heap_alloc_new _ _
  have HB1 := Lib.hid hb1
  clear hW hb1
  go_loopw [5, 6] (fun v x wr => ∃ (k q : Nat) (av : Option Addr) (cv : Nat), v = .slice av q cv ∧ x = .int .i64 (k : Int) ∧ k ≤ nb ∧ Hid (wr.ownsRow w1.heap.size 3 1 (.slice av q cv) q (icells (nats (movU m s k)))) ∧ Hid (Below w1.heap.size w1 wr)) (fun _ x _ => nb - (intOf x).toNat)
  case atStart => exact ⟨0, 0, none, 0, rfl, rfl, Nat.zero_le _, Lib.hid (World.ownsRow_nil _ _ _ _), Lib.hid (Below.refl _ _)⟩
  case round =>
    obtain ⟨k, q, av, cv, rfl, rfl, hk, hO, hB⟩ := hrel
    have k0 : (0 : Int) ≤ (k : Int) := by omega
    have km := blk_below kM hB.out
    have q0 := blk_cell km (i := 0) rfl
    have q1 := blk_cell km (i := 1) rfl
    have q2 := blk_cell km (i := 2) rfl
    have lr0 := blk_lt km
    clear km
    by_cases hlt : k < nb
    · have k1 : (k : Int) < (nb : Int) := by omega
      have HMX := Lib.hid (HMC.out k hlt wr (HB1.out.trans (hB.out.mono HB1.out.size)))
      have hql : q ≤ 400 := by
        have e1 := hO.out.1
        have e2 := movU_len m s k
        simp only [icells, nats, List.length_map] at e1
        omega
      obtain ⟨mb, hmb⟩ : ∃ b, b = mayB m s k := ⟨_, rfl⟩
      rw [← hmb] at HMX
      have HMB := Lib.hid hmb
      clear hmb
      go_wp2_with fail
      refine (HMX.out).mono ?_
      rintro e5 w5 ⟨rfl, hb5⟩
      have HO5 := Lib.hid (owns_below hO.out hb5 (fun z hz => (hO.out.lt z hz).2))
      have HB5 := Lib.hid (hB.out.trans (hb5.mono hB.out.size))
      clear hb5 q0 q1 q2 lr0 HMX hO hB
      cases mb
      · go_wp2_with fail
        go_roundw
        case rel => exact ⟨k + 1, q, av, cv, rfl, by go_num, by omega, by rw [movU_no HMB.out.symm]; exact HO5, HB5⟩
        case measure => simp [intOf]; omega
      · have HL := Lib.hid (show icells (nats (movU m s (k + 1))) = icells (nats (movU m s k)) ++ [.int .i64 (k : Int)] by rw [movU_yes HMB.out.symm]; simp [nats, icells])
        go_wp2_with (at_builtin; refine wpList_append_sl _ rfl _ _ 62 rfl w1.heap.size 3 _ 1 8 Tryz.underlying62 infoInt rfl (by omega) (.slice av q cv) q _ rfl (HO5.out.alloc _) _ 1 1 [.int .i64 (k : Int)] rfl (SlR.lit _ _ _ _ _ 1 1 (by rfl) (by simp) rfl (by omega)) (by simp [Value.oneCell']) (by omega) (by omega) (by have := HB5.out.size; simp; omega) ?_)
        intro v2 w42 hown2 hgr2 hb2
        obtain ⟨av2, cv2, rfl, _, _⟩ := owns_slice hown2
        rw [← HL.out] at hown2
        have HO2 := Lib.hid hown2
        have HB2 := Lib.hid ((HB5.out.alloc HB5.out.size _).trans hb2)
        clear hown2 hgr2 hb2 HO5 HB5 HL
        go_wp2_with fail
        go_roundw
        case rel => exact ⟨k + 1, q + 1, av2, cv2, rfl, by go_num, by omega, HO2, HB2⟩
        case measure => simp [intOf]; omega
    · obtain rfl : nb = k := by omega
      have HR := Lib.hid (show IntsR wr av q (nats (movL m s)) by rw [← HEN.out]; exact SlR.of_owns hO.out)
      clear hO
      go_wp2
      go_ret
      exact ⟨av, q, cv, rfl, HB1.out.trans (hB.out.mono HB1.out.size), HR.out⟩
end Go.Proofs.YtidboecjllaofaaGreat
