import Derived.WalkKit
import Derived.WalkLawsBesides
import Derived.WalkSpells
import Derived.Handy
import Derived.Lib.Hide
import Derived.Deep.QuietTactic
import Derived.BigQuiet
import Derived.StillTailTactics
import Derived.Deep.RegionHeld3
import Derived.Lib.AppendZerosOnto
import Derived.Laws.AppendOwnNone
import Derived.RangeFuncNested
import Derived.RangeFuncBound
import Derived.RangeFuncCalls
import Derived.RangeFuncLeaves
import Derived.OwnWalkIn
import Derived.TacticsInMore
/- Words and lemmas about worlds and slices that the walks of this seat use. No program in sight. -/
namespace Go.Proofs.YtdklmcicogmeaaaGreat
open Go.RowKit

/-- A slice value's address 'a' leads to 'n' elements of 'sz' cells each, which hold 'xs'. -/
def SlR (w : World) (a : Option Addr) (n sz : Nat) (xs : List Value) : Prop :=
  xs.length = n * sz ∧ n ≤ maxLen ∧ (0 < n → ∃ b o, a = some ⟨b, o, none⟩ ∧ b < w.heap.size ∧ ∀ i u, xs[i]? = some u → w.cell? ⟨b, o + i, none⟩ = some u)

theorem SlR.len {w : World} {a : Option Addr} {n sz : Nat} {xs : List Value} (h : SlR w a n sz xs) : xs.length = n * sz := h.1
theorem SlR.small {w : World} {a : Option Addr} {n sz : Nat} {xs : List Value} (h : SlR w a n sz xs) : n ≤ 9223372036854775807 := by
  have := h.2.1; unfold maxLen at this; omega
theorem SlR.addr {w : World} {a : Option Addr} {n sz : Nat} {xs : List Value} (h : SlR w a n sz xs) (hn : 0 < n) :
    ∃ b o, a = some ⟨b, o, none⟩ ∧ b < w.heap.size ∧ ∀ i u, xs[i]? = some u → w.cell? ⟨b, o + i, none⟩ = some u := h.2.2 hn

/-- What holds of a slice holds in every later world that keeps the old blocks. -/
theorem SlR.below {w w' : World} {a : Option Addr} {n sz : Nat} {xs : List Value} (h : SlR w a n sz xs) (hb : Below w.heap.size w w') : SlR w' a n sz xs := by
  refine ⟨h.1, h.2.1, fun hn => ?_⟩
  obtain ⟨b, o, ha, hlt, hc⟩ := h.2.2 hn
  refine ⟨b, o, ha, Nat.lt_of_lt_of_le hlt hb.size, fun i u hu => ?_⟩
  rw [hb.cell (p := ⟨b, o + i, none⟩) hlt]
  exact hc i u hu

theorem SlR.nil (w : World) (a : Option Addr) (sz : Nat) : SlR w a 0 sz [] := ⟨by simp, by simp [maxLen], fun h => absurd h (by omega)⟩

/-- What the call owns is a slice that reads so. -/
theorem SlR.of_owns {w : World} {base : Nat} {e : TypeId} {sz n c : Nat} {a : Option Addr} {xs : List Value} (h : w.ownsRow base e sz (.slice a n c) n xs) : SlR w a n sz xs := by
  refine ⟨h.1, ?_, fun hn => ?_⟩
  · rcases h.2 with ⟨_, h0⟩ | ⟨g, cap, cur, _, _, _, h1, h2, _⟩
    · subst h0; simp [maxLen]
    · exact Nat.le_trans h1 h2
  · rcases h.2 with ⟨_, h0⟩ | ⟨g, cap, cur, hv, _, hg, _⟩
    · omega
    · simp only [Value.slice.injEq] at hv
      obtain ⟨rfl, _, rfl⟩ := hv
      refine ⟨g, 0, rfl, (Array.getElem?_eq_some_iff.1 hg).1, fun i u hu => ?_⟩
      have := h.cells (g := g) (by simp [Value.ownBlock]) i u hu
      rwa [Addr.add_lit] at this

/-- Every owned value is a slice of that length. -/
theorem owns_slice {w : World} {base : Nat} {e : TypeId} {sz n : Nat} {v : Value} {xs : List Value} (h : w.ownsRow base e sz v n xs) : ∃ a c, v = .slice a n c ∧ n ≤ c ∧ c ≤ maxLen := by
  rcases h.2 with ⟨hv, h0⟩ | ⟨g, cap, cur, hv, _, _, h1, h2, _⟩
  · subst h0; exact ⟨_, _, hv, Nat.le_refl _, by simp [maxLen]⟩
  · exact ⟨_, _, hv, h1, h2⟩

/-- A list of integers as cells. -/
def icells (l : List Int) : List Value := l.map (Value.int .i64)
theorem icells_length (l : List Int) : (icells l).length = l.length := by simp [icells]
theorem icells_get {l : List Int} {i : Nat} (h : i < l.length) : (icells l)[i]? = some (.int .i64 (l.getD i 0)) := by
  simp [icells, List.getD, h]
theorem icells_append (a b : List Int) : icells (a ++ b) = icells a ++ icells b := by simp [icells]
theorem icells_inj {a b : List Int} (h : icells a = icells b) : a = b := by
  unfold icells at h
  exact List.map_inj_right (fun x y h => by simpa using h) |>.1 h

/-- A slice of integers. -/
def IntsR (w : World) (a : Option Addr) (n : Nat) (l : List Int) : Prop := SlR w a n 1 (icells l)
theorem IntsR.len {w : World} {a : Option Addr} {n : Nat} {l : List Int} (h : IntsR w a n l) : l.length = n := by
  have := h.1; rw [icells_length] at this; omega
theorem IntsR.below {w w' : World} {a : Option Addr} {n : Nat} {l : List Int} (h : IntsR w a n l) (hb : Below w.heap.size w w') : IntsR w' a n l := SlR.below h hb
theorem IntsR.small {w : World} {a : Option Addr} {n : Nat} {l : List Int} (h : IntsR w a n l) : n ≤ 9223372036854775807 := SlR.small h
theorem IntsR.addr {w : World} {a : Option Addr} {n : Nat} {l : List Int} (h : IntsR w a n l) (hn : 0 < n) :
    ∃ b o, a = some ⟨b, o, none⟩ ∧ b < w.heap.size ∧ ∀ i, i < n → w.cell? ⟨b, o + i, none⟩ = some (.int .i64 (l.getD i 0)) := by
  obtain ⟨b, o, ha, hlt, hc⟩ := h.2.2 hn
  exact ⟨b, o, ha, hlt, fun i hi => hc i _ (icells_get (by rw [h.len]; exact hi))⟩
theorem IntsR.nil (w : World) (a : Option Addr) : IntsR w a 0 [] := SlR.nil w a 1

/-- A literal block read as a slice. -/
theorem SlR.lit (w0 w : World) (cs : List Value) (t B n sz : Nat) (hw : w.heap = (w0.alloc (.cells cs.toArray t)).heap) (hB : B = w0.heap.size) (hl : cs.length = n * sz) (hn : n ≤ 1000) : SlR w (some ⟨B, 0, none⟩) n sz cs := by
  refine ⟨hl, by unfold maxLen; omega, fun _ => ⟨B, 0, rfl, ?_, fun i u hu => ?_⟩⟩
  · rw [hw]; subst hB; simp
  · subst hB
    have h : w.heap[w0.heap.size]? = some (.cells cs.toArray t) := by rw [hw]; exact heap_alloc_new w0 _
    rw [cell_of_row _ _ _ _ _ _ h]; simpa using hu

/-- Rows below B stay owned. -/
theorem owns_below {w w' : World} {base B : Nat} {e : TypeId} {sz n : Nat} {v : Value} {xs : List Value} (h : w.ownsRow base e sz v n xs) (hb : Below B w w') (hB : ∀ k, v.ownBlock = some k → k < B) : w'.ownsRow base e sz v n xs := by
  refine ⟨h.1, ?_⟩
  rcases h.2 with hn | ⟨g, cap, cur, rfl, hbase, hgg, rest⟩
  · exact .inl hn
  · refine .inr ⟨g, cap, cur, rfl, hbase, ?_, rest⟩
    rw [hb.block g (hB g rfl)]
    exact hgg
theorem owns_mono {w : World} {base base' : Nat} {e : TypeId} {sz n : Nat} {v : Value} {xs : List Value} (h : w.ownsRow base e sz v n xs) (hb : base' ≤ base) : w.ownsRow base' e sz v n xs := by
  refine ⟨h.1, ?_⟩
  rcases h.2 with hn | ⟨g, cap, cur, rfl, hbase, r⟩
  · exact .inl hn
  · exact .inr ⟨g, cap, cur, rfl, Nat.le_trans hb hbase, r⟩

theorem owns_lit {w0 : World} {base B n sz : Nat} {e : TypeId} {cs : Array Value} (hB : B = w0.heap.size) (hb : base ≤ B) (hn : n ≤ 1000000) (hl : cs.size = n * sz) : (w0.alloc (.cells cs e)).ownsRow base e sz (.slice (some ⟨B, 0, none⟩) n n) n cs.toList := by
  subst hB; exact World.ownsRow_lit w0 cs n hb (by unfold maxLen; omega) hl
theorem owns_drewN {w : World} {base n sz : Nat} {e : TypeId} {v : Value} {xs : List Value} (h : w.ownsRow base e sz v n xs) (m : Nat) : (w.drewN m).ownsRow base e sz v n xs := h

theorem run_append_zero {P : Program} (w : World) (base : Nat) (t ty e : TypeId) (i : TypeInfo) (size : Nat) (ht : P.underlying t = some (.slice e)) (hi : P.info? e = some i)
    (v : Value) (n : Nat) (xs : List Value) (hown : w.ownsRow base e size v n xs) (ao : Option Addr) (c : Nat) :
    (Builtin.append_ #[t, t] ty #[v, .slice ao 0 c]).run P w = .ok v w := by
  rcases hown.2 with ⟨rfl, rfl⟩ | ⟨g, cap, cur, rfl, _, _, hnc, _⟩
  · cases ao <;> simp [Builtin.append_, run_underlying ht, sizeOf, typeInfo, hi, Builtin.lenOf, Builtin.firstCells, loadCells, loadCellsFrom]
  · cases ao <;> simp [Builtin.append_, run_underlying ht, sizeOf, typeInfo, hi, Builtin.lenOf, Builtin.firstCells, loadCells, loadCellsFrom, hnc, storeCells]

/-- 'append(out, xs...)': out the call's own, xs any slice that can be read. -/
theorem wpList_append_sl {P : Program} (w : World) {ops : Array Oper} {rest : List Oper} {o : Oper} {a : Act} {Q : Exit → Act → World → Prop} (hgd : o.guard = none) (s x : Operand) (t : TypeId)
    (ho : o.op = .call { callee := .builtin .append, args := #[s, x], argTypes := #[t, t] })
    (base : Nat) (e : TypeId) (z : Value) (size bytes : Nat) (ht : P.underlying t = some (.slice e)) (hi : (P.info? e).map (fun i => (i.zero, i.size, i.bytes)) = some (some z, size, bytes))
    (hzs : z.cells.size = size) (hsz : 0 < size)
    (v : Value) (n : Nat) (xs : List Value) (hs : a.eval s = v) (hown : w.ownsRow base e size v n xs)
    (ao : Option Addr) (m c : Nat) (news : List Value) (hx : a.eval x = .slice ao m c) (hsrc : SlR w ao m size news) (h1 : ∀ u ∈ news, u.oneCell' = true)
    (hnm : n + m ≤ 1000000) (hbytes : bytes ≤ 1000) (hbase : base ≤ w.heap.size)
    (h : ∀ v' w', w'.ownsRow base e size v' (n + m) (xs ++ news) → w.grownBy w' v.ownBlock → Below base w w' → wpList P ops Q rest (a.put o.dst v') w') : wpList P ops Q (o :: rest) a w := by
  obtain ⟨i, hi1, hi2, hi3, hi4⟩ := info_parts hi
  by_cases hm : m = 0
  · subst hm
    have hnews : news = [] := List.eq_nil_of_length_eq_zero (by simpa using hsrc.1)
    subst hnews
    refine wpList_plain hgd fun K hK => ?_
    have hrun := run_append_zero (P := P) w base t o.type e i size ht hi1 v n xs hown ao c
    unfold Oper.wp
    simp [execOp, ho, resolve, invoke, builtin, hs, hx, hrun, Result.andThen]
    exact hK _ _ (h v w (by simpa using hown) (World.grownBy.refl _ _) (Below.refl _ _))
  · obtain ⟨b, o', rfl, hb, hc⟩ := hsrc.2.2 (by omega)
    have hmul : (n + m) * bytes ≤ 1000000 * 1000 := Nat.mul_le_mul hnm hbytes
    refine wpList_append_own w hgd s x t ho base e i z size bytes ht hi1 hi2 hi3 hi4 hzs hsz v n xs hs hown ⟨b, o', none⟩ m c news hx hsrc.1 (fun j u hu => by rw [Addr.add_lit]; exact hc j u hu) h1 (by unfold maxLen; omega) (by omega) hbase
      (fun v' w' h2 h3 _ => h v' w' h2 h3 ((Below.refl base w).grown h3 hbase (fun k hk => (hown.lt k hk).1)))

theorem icells_one (l : List Int) : ∀ u ∈ icells l, u.oneCell' = true := ints_oneCell .i64 l

theorem _root_.Go.RowKit.Below.drewN {B : Nat} {a w : World} (h : Below B a w) (n : Nat) : Below B a (w.drewN n) := ⟨h.os, h.tape, h.output, h.size, h.block⟩
theorem _root_.Go.RowKit.Below.step {B : Nat} {a b c : World} (h : Below b.heap.size b c) (hB : B ≤ b.heap.size) (k : Below B a b) : Below B a c := k.trans (h.mono hB)
theorem ret_int {k : IntKind} {a b : Int} (h : a = b) : Ending.returned (.int k a) = .returned (.int k b) := by rw [h]
theorem ret_bool {a b : Bool} (h : a = b) : Ending.returned (.bool a) = .returned (.bool b) := by rw [h]
theorem cellB {w w' : World} {B : Nat} (hb : Below B w w') (b o : Nat) (h : b < B) : w'.cell? ⟨b, o, none⟩ = w.cell? ⟨b, o, none⟩ := hb.cell (p := ⟨b, o, none⟩) h

theorem frozenB {w w' : World} {B : Nat} (hb : Below B w w') (b o : Nat) (h : b < B) : w'.frozen? ⟨b, o, none⟩ = w.frozen? ⟨b, o, none⟩ := hb.frozen (p := ⟨b, o, none⟩) h

end Go.Proofs.YtdklmcicogmeaaaGreat

/- A range over a method value or a closure, whose rounds may leave: a round, the statement, and a return behind many such statements. -/
namespace Go.Proofs.YtdklmcicogmeaaaGreat
open Go.RowKit
set_option linter.unusedVariables false

/-- What a round leaves: it goes on, or it leaves by the jump j. -/
def twoPost (P : Program) (l : Nat) (rec : Loop) (R : Ending → World → Prop) : Exit → Act → World → Prop
  | .normal, _, W => W.heap[l]? = some (.loop { rec with state := .busy }) ∧ R (.returned (.bool true)) (W.putObj l (.loop rec))
  | .ret, _, W => W.heap[l]? = some (.loop { rec with state := .busy }) ∧ R (.returned (.bool false)) (W.putObj l (.loop { rec with state := .done, pending := some .ret }))
  | _, _, _ => False
theorem yield_two {P : Program} {m l : Nat} {xs : Array Value} {W : World} {R : Ending → World → Prop} {rec : Loop} (hl : W.heap[l]? = some (.loop rec)) (hst : rec.state = .ready) (hp : rec.pending = none) (hsz : xs.size = rec.params.size)
    (h : rec.assign.wpIn (Fence.wide.inRound l) m P (Exit.then (fun a1 W1 => W1.heap[l]? = some (.loop rec) ∧ rec.body.wpIn (Fence.wide.inRound l) m P (twoPost P l rec R) a1 (W1.putObj l (.loop { rec with state := .busy }))) (fun _ _ _ => False))
      { tmps := (rec.params.zip xs).foldl (fun t (p, v) => t.setIfInBounds p v) rec.tmps, defers := [] } W) :
    YieldAt Fence.wide m P l xs W R := by
  refine ⟨_, _, _, _, run_yield hl hsz, roundIn_of_wpIn trivial (wpIn_mono h ?_)⟩
  intro e a1 W1 hq
  cases e with
  | normal =>
    obtain ⟨h1, h2⟩ := hq
    refine ⟨_, run_beginRound h1 hst, wpIn_mono h2 ?_⟩
    intro e2 a2 W2 hq2
    cases e2 with
    | normal =>
      obtain ⟨h3, h4⟩ := hq2
      refine ⟨_, _, run_endRound none h3, ?_⟩
      have : ({ { rec with state := .busy } with state := if (none : Option Code).isNone then .ready else .done, pending := none } : Loop) = rec := by
        cases rec; simp_all
      simp only [this]
      exact h4
    | ret =>
      obtain ⟨h3, h4⟩ := hq2
      refine ⟨_, _, run_endRound (some .ret) h3, ?_⟩
      exact h4
    | _ => exact hq2.elim
  | _ => exact hq.elim
theorem range_two {P : Program} {n : Nat} {g : Operand} {ps : Array Tmp} {assign body : Code} {Q : Exit → Act → World → Prop} {a : Act} {w : World} {gf : Nat} {fst lst : Array Value}
    (hg : a.eval g = .func (.func gf) fst lst) (eg : ∀ args w, (callFunc gf args).run P w = .ok (.enter gf args) w)
    (h : ∀ rec : Loop, rec.state = .ready → rec.pending = none → rec.params = ps → rec.tmps = a.tmps → rec.assign = assign → rec.body = body →
      CallsIn Fence.wide (n - 1) P gf (fst ++ #[.func (.yield (w.heap.size + 1)) #[] #[]] ++ lst) ((w.alloc (.deferred (some []))).alloc (.loop rec)) fun e W => (∃ v, e = .returned v) ∧
        ((W.heap[w.heap.size + 1]? = some (.loop rec) ∧
          Q .normal { a with defers := { target := .collected w.heap.size, args := #[] } :: a.defers } (W.putObj (w.heap.size + 1) (.loop { rec with state := .exhausted }))) ∨
        (W.heap[w.heap.size + 1]? = some (.loop { rec with state := .done, pending := some .ret }) ∧
          Q .ret { a with defers := { target := .collected w.heap.size, args := #[] } :: a.defers } (W.putObj (w.heap.size + 1) (.loop { rec with state := .exhausted, pending := some .ret }))))) :
    (Code.rangeFunc g ps assign body).wpIn Fence.wide n P Q a w := by
  refine wpIn_rangeFunc ?_
  intro fn hfn
  obtain ⟨W1, hW1⟩ : ∃ W1, W1 = (w.alloc (.deferred (some []))).alloc (.loop { state := .ready, pending := none, fn := fn, tmps := a.tmps, params := ps, assign := assign, body := body, defers := w.heap.size }) := ⟨_, rfl⟩
  refine ⟨w.heap.size + 1, [{ target := .collected w.heap.size, args := #[] }], W1, { target := .fn (.func gf) lst, args := fst ++ #[.func (.yield (w.heap.size + 1)) #[] #[]] }, W1, gf, fst ++ #[.func (.yield (w.heap.size + 1)) #[] #[]] ++ lst, W1, by rw [hW1]; exact run_enterLoop_outer _ _ _ _ _, ?_, fun _ _ => trivial, ?_, fun h => by simp [Fence.wide] at h, ?_⟩
  · simp only [resolve, hg]
    simp [go_sem]
  · simp [invoke, go_sem, eg]
  · rw [hW1]
    refine (h _ rfl rfl rfl rfl rfl rfl).mono ?_
    rintro e W ⟨⟨v, rfl⟩, (⟨h1, h2⟩ | ⟨h1, h2⟩)⟩
    · exact ⟨none, _, by have := run_endLoop (P := P) h1 (by simp); exact this, h2⟩
    · refine ⟨some .ret, _, by have := run_endLoop (P := P) h1 (by simp); exact this, ?_⟩
      exact wpIn_ret h2
/-- The cells are as they were; behind a return: the marks' blocks are shut. -/
def SameCells (A B : World) : Prop := ∀ (k : Nat) c t z, A.heap[k]? = some (.cells c t z) → B.heap[k]? = some (.cells c t z)
def mark (D : Nat) : Deferred := { target := .collected D, args := #[] }
theorem leaves_marks {P : Program} {F : Fence} {n : Nat} {fn : Func} {tmps : Array Value} {R : Ending → World → Prop} {B : Nat} {w0 : World} : ∀ (l : List Nat) (w : World), l.Nodup → (∀ D ∈ l, B ≤ D ∧ w.heap[D]? = some (.deferred (some []))) → Below B w0 w →
    (∀ w', SameCells w w' → Below B w0 w' → ∃ v, (results fn tmps).run P w' = .ok v w' ∧ R (.returned v) w') → LeavesInM F n P fn tmps R (l.map mark) .returning w
  | [], w, _, _, hb, h => h w (fun _ _ _ _ h => h) hb
  | D :: r, w, hn, hd, hb, h => by
    rw [List.nodup_cons] at hn
    have hD := hd D (by simp)
    refine ⟨by simp, .inl ⟨D, _, rfl, run_takeDeferred hD.2, ?_⟩⟩
    have hlt := (Array.getElem?_eq_some_iff.1 hD.2).1
    refine leaves_marks r _ hn.2 (fun E hE => ⟨(hd E (by simp [hE])).1, ?_⟩) (hb.trans ?_) (fun w' hs hb' => h w' (fun k c t z hk => hs k c t z ?_) hb')
    · rw [World.putObj_heap_other (by rintro rfl; exact hn.1 hE)]
      exact (hd E (by simp [hE])).2
    · exact (Below.refl B w).grown (grownBy_putObj' w D _) (by omega) (fun k e => by cases e; exact hD.1)
    · rw [World.putObj_heap_other (fun e => ?_)]
      · exact hk
      · subst e; rw [hD.2] at hk; cases hk
end Go.Proofs.YtdklmcicogmeaaaGreat
